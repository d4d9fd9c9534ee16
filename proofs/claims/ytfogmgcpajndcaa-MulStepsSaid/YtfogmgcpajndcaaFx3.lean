-- Written by a program of this seat's session (mkprint), out of the translation.
import Derived.Test.YtfogmgcpajndcaaShort
import Derived.Test.YtfogmgcpajndcaaFx0
import Derived.Test.YtfogmgcpajndcaaFx1
namespace Go.Proofs.Ytfogmgcpajndcaa.F
open Go.RowKit Go.Proofs.YtfogmgcpajndcaaW.PrintWords Go.Proofs.YtfogmgcpajndcaaW.PrintLast Go.Proofs.YtfogmgcpajndcaaW.PrintMore
attribute [local go_sem] max2_int min2_int max_two min_two max_three min_three max_four min_four   -- for this text's walks alone
set_option linter.unusedVariables false
set_option linter.unusedSimpArgs false

attribute [local go_sem high] eqA68
/-! ### word_Make: function 36 -/
def word_Make.f (a0 : Bool) (a1 : Int) (a2 : Int) : Option (Int) := if a0 = true then (some (Go.bits .or .u64 (Go.bits .or .u64 (IntKind.u64.wrap ((Go.bits .and .u64 (IntKind.u64.wrap (a1)) 2047) * 4503599627370496)) (Go.bits .and .u64 a2 4503599627370495)) 9223372036854775808)) else (some (Go.bits .or .u64 (IntKind.u64.wrap ((Go.bits .and .u64 (IntKind.u64.wrap (a1)) 2047) * 4503599627370496)) (Go.bits .and .u64 a2 4503599627370495)))
set_option maxHeartbeats 8000000 in
set_option maxRecDepth 100000 in
theorem word_Make.calls (a0 : Bool) (a1 : Int) (a2 : Int) (r : Int) (w : World) (h : word_Make.f a0 a1 a2 = some r) :
  Calls Try.prog 36 #[.bool a0, .int .i64 a1, .int .u64 a2] w fun e w' => e = .returned (.int .u64 r) ∧ Drawn0 w w' := by
 have H : (if a0 = true then (some (Go.bits .or .u64 (Go.bits .or .u64 (IntKind.u64.wrap ((Go.bits .and .u64 (IntKind.u64.wrap (a1)) 2047) * 4503599627370496)) (Go.bits .and .u64 a2 4503599627370495)) 9223372036854775808)) else (some (Go.bits .or .u64 (IntKind.u64.wrap ((Go.bits .and .u64 (IntKind.u64.wrap (a1)) 2047) * 4503599627370496)) (Go.bits .and .u64 a2 4503599627370495)))) = some r := h
 clear h
 by_cases c4 : a0 = true
 ·
  subst c4
  rw [if_pos rfl] at H
  obtain rfl := Option.some.inj H
  go_enter Try.func36, Try.ntmps36
  go_wp2
  go_ret
  exact ⟨by first | rfl | (simp; done) | (simp [*]; done), by repeat (first | exact Drawn0.refl _ | apply Drawn0.step)⟩
 ·
  replace c4 := Bool.eq_false_iff.mpr c4
  subst c4
  rw [if_neg (show ¬ (false = true) by decide)] at H
  obtain rfl := Option.some.inj H
  go_enter Try.func36, Try.ntmps36
  go_wp2
  go_ret
  exact ⟨by first | rfl | (simp; done) | (simp [*]; done), by repeat (first | exact Drawn0.refl _ | apply Drawn0.step)⟩

/-! ### wide_Wide_Left: function 40 -/
def wide_Wide_Left.f (a0_0 : Int) (a0_1 : Int) (a1 : Int) : Option (Int × Int) := if a1 ≤ 0 then (some (a0_0, a0_1)) else (if a1 ≥ 128 then (some (0, 0)) else (if a1 ≥ 64 then (if 0 ≤ (wrap64 (a1 - 64)) then (some (shl .u64 a0_1 (wrap64 (a1 - 64)), 0)) else (none)) else (if 0 ≤ a1 then (if 0 ≤ (wrap64 (64 - a1)) then (some (Go.bits .or .u64 (shl .u64 a0_0 a1) (shr .u64 a0_1 (wrap64 (64 - a1))), shl .u64 a0_1 a1)) else (none)) else (none))))
def wide_Wide_Left.T7 : Bool × List (List Nat × List Nat) := (true, [([], []), ([0], [0]), ([], []), ([1, 2], [1, 2]), ([], []), ([4], [4]), ([], []), ([6], [6]), ([5, 7], [5, 7]), ([3, 8], [3, 8]), ([], []), ([10], [10]), ([], []), ([11, 12], [11, 12]), ([9, 13], [9, 13]), ([14, 0, 1, 2, 3, 4, 5, 6, 7, 8, 9, 10, 11, 12, 13, 14], [14])])
def wide_Wide_Left.B7 : List Nat := [0, 1, 0, 7, 0, 16, 0, 64, 240, 511, 0, 1024, 0, 7168, 16383, 32767]
theorem wide_Wide_Left.tab7 : rtab .any (opsOf Try.f40 7) = wide_Wide_Left.T7 := by kernel_rfl
theorem wide_Wide_Left.bits7 : waitsOk wide_Wide_Left.T7.2 wide_Wide_Left.B7 = true := by kernel_rfl
set_option maxHeartbeats 8000000 in
set_option maxRecDepth 100000 in
theorem wide_Wide_Left.calls (a0_0 : Int) (a0_1 : Int) (a1 : Int) (r1 : Int) (r2 : Int) (w : World) (h : wide_Wide_Left.f a0_0 a0_1 a1 = some (r1, r2)) :
  Calls Try.prog 40 #[.agg #[.int .u64 a0_0, .int .u64 a0_1], .int .i64 a1] w fun e w' => e = .returned (.agg #[.int .u64 r1, .int .u64 r2]) ∧ Below w.heap.size w w' := by
 have hu68 := Try.underlying68
 have HB := Aside0.mk (Below.refl w.heap.size w)
 have H : (if a1 ≤ 0 then (some (a0_0, a0_1)) else (if a1 ≥ 128 then (some (0, 0)) else (if a1 ≥ 64 then (if 0 ≤ (wrap64 (a1 - 64)) then (some (shl .u64 a0_1 (wrap64 (a1 - 64)), 0)) else (none)) else (if 0 ≤ a1 then (if 0 ≤ (wrap64 (64 - a1)) then (some (Go.bits .or .u64 (shl .u64 a0_0 a1) (shr .u64 a0_1 (wrap64 (64 - a1))), shl .u64 a0_1 a1)) else (none)) else (none))))) = some (r1, r2) := h
 clear h
 by_cases c3 : a1 ≤ 0
 ·
  rw [if_pos c3] at H
  have c3b0 : decide (a1 ≤ 0) = true := decide_eq_true c3
  clear c3
  simp only [Option.some.injEq, Prod.mk.injEq] at H
  obtain ⟨rfl, rfl⟩ := H
  go_enter Try.func40, Try.ntmps40
  go_wp2_with (first | ((with_reducible refine gate_dst (N := 2) rfl ?_); refine gbox (N := 2) (cs := #[.int .u64 a0_0, .int .u64 a0_1]) (t := 68) ?_; intro gb137 hg w4 hbox hb; refine ax4 (below_step bel hb) hbox ((ge hg : w.heap.size ≤ gb137)) ((ge hg : w.heap.size ≤ gb137)) ?_; clear HB; intro HB BK137 GW137 GE137; clear hb hbox hg) | ((with_reducible refine gate_dst (N := 4) rfl ?_); refine gbox (N := 4) (cs := #[.int .u64 0, .int .u64 0]) (t := 68) ?_; intro gb138 hg w5 hbox hb; refine ax7 (bb BK137 hb) (below_step bes hb) hbox ((ge hg : w.heap.size ≤ gb138)) ((ge hg : w.heap.size ≤ gb138)) (nl hg BK137) (ng hg BK137) ?_; clear BK137; clear HB; intro BK137 HB BK138 GW138 GE138 NB137_138 NB138_137; clear hb hbox hg; have hnb6 := NB137_138.out; have hnc6 := NB138_137.out; have hcz7_0 := bc BK137 0 rfl; have hcz7_1 := bc BK137 1 rfl; have hfz7_0 := blk_frozen BK137.out 0; have hfz7_1 := blk_frozen BK137.out 1; have hcz8_0 := bc BK138 0 rfl; have hcz8_1 := bc BK138 1 rfl; have hfz8_0 := blk_frozen BK138.out 0; have hfz8_1 := blk_frozen BK138.out 1))
  refine bodyPost_ret (results_cell_row rfl _ _ gb138 68 #[.int .u64 a0_0, .int .u64 a0_1] (0, 0) _ rfl (bp BK138) Try.underlying68 rfl (by kernel_rfl)) rfl ?_
  exact ⟨er, bes⟩
 ·
  rw [if_neg c3] at H
  have c3b0 : decide (a1 ≤ 0) = false := decide_eq_false c3
  clear c3
  by_cases c9 : a1 ≥ 128
  ·
   rw [if_pos c9] at H
   have c9b0 : decide (128 ≤ a1) = true := decide_eq_true c9
   clear c9
   simp only [Option.some.injEq, Prod.mk.injEq] at H
   obtain ⟨rfl, rfl⟩ := H
   go_enter Try.func40, Try.ntmps40
   go_wp2_with (first | ((with_reducible refine gate_dst (N := 2) rfl ?_); refine gbox (N := 2) (cs := #[.int .u64 a0_0, .int .u64 a0_1]) (t := 68) ?_; intro gb137 hg w10 hbox hb; refine ax4 (below_step bel hb) hbox ((ge hg : w.heap.size ≤ gb137)) ((ge hg : w.heap.size ≤ gb137)) ?_; clear HB; intro HB BK137 GW137 GE137; clear hb hbox hg) | ((with_reducible refine gate_dst (N := 4) rfl ?_); refine gbox (N := 4) (cs := #[.int .u64 0, .int .u64 0]) (t := 68) ?_; intro gb138 hg w11 hbox hb; refine ax7 (bb BK137 hb) (below_step bes hb) hbox ((ge hg : w.heap.size ≤ gb138)) ((ge hg : w.heap.size ≤ gb138)) (nl hg BK137) (ng hg BK137) ?_; clear BK137; clear HB; intro BK137 HB BK138 GW138 GE138 NB137_138 NB138_137; clear hb hbox hg; have hnb12 := NB138_137.out; have hnc12 := NB137_138.out; have hcz13_0 := bc BK138 0 rfl; have hcz13_1 := bc BK138 1 rfl; have hfz13_0 := blk_frozen BK138.out 0; have hfz13_1 := blk_frozen BK138.out 1))
   refine bodyPost_ret (results_cell_row rfl _ _ gb138 68 #[.int .u64 0, .int .u64 0] (0, 0) _ rfl (bp BK138) Try.underlying68 rfl (by kernel_rfl)) rfl ?_
   exact ⟨er, bes⟩
  ·
   rw [if_neg c9] at H
   have c9b0 : decide (128 ≤ a1) = false := decide_eq_false c9
   clear c9
   by_cases c14 : a1 ≥ 64
   ·
    rw [if_pos c14] at H
    have c14b0 : decide (64 ≤ a1) = true := decide_eq_true c14
    clear c14
    obtain ⟨ji15, hji15⟩ : ∃ j_ : Int, (wrap64 (a1 - 64)) = j_ := ⟨_, rfl⟩
    replace H : (if 0 ≤ (ji15) then (some (shl .u64 a0_1 (ji15), 0)) else (none)) = some (r1, r2) := by first | (rw [hji15] at H; exact H) | (simp only [hji15] at H ⊢; exact H)
    have hji15w : (IntKind.i64.wrap (a1 - 64)) = ji15 := (i64_w _).trans hji15
    by_cases c16 : 0 ≤ (ji15)
    rotate_left
    ·
     rw [if_neg c16] at H
     exact absurd H (by simp)
    rw [if_pos c16] at H
    have c16b0 := eq_true c16
    have c16b1 : decide (0 ≤ (ji15)) = true := decide_eq_true c16
    clear c16
    obtain ⟨ji17, hji17⟩ : ∃ j_ : Int, (shl .u64 a0_1 (ji15)) = j_ := ⟨_, rfl⟩
    replace H : (some (ji17, 0)) = some (r1, r2) := by first | (rw [hji17] at H; exact H) | (simp only [hji17] at H ⊢; exact H)
    have hji17_ : (IntKind.u64.wrap (a0_1 * 2 ^ min (ji15).toNat 64)) = ji17 := hji17
    have hji17z : (ji15) ≤ 64 → (IntKind.u64.wrap (a0_1 * 2 ^ (ji15).toNat)) = ji17 := shl_small hji17
    simp only [Option.some.injEq, Prod.mk.injEq] at H
    obtain ⟨rfl, rfl⟩ := H
    go_enter Try.func40, Try.ntmps40
    go_wp2_with (first | ((with_reducible refine gate_dst (N := 2) rfl ?_); refine gbox (N := 2) (cs := #[.int .u64 a0_0, .int .u64 a0_1]) (t := 68) ?_; intro gb137 hg w18 hbox hb; refine ax4 (below_step bel hb) hbox ((ge hg : w.heap.size ≤ gb137)) ((ge hg : w.heap.size ≤ gb137)) ?_; clear HB; intro HB BK137 GW137 GE137; clear hb hbox hg) | ((with_reducible refine gate_dst (N := 4) rfl ?_); refine gbox (N := 4) (cs := #[.int .u64 0, .int .u64 0]) (t := 68) ?_; intro gb138 hg w19 hbox hb; refine ax7 (bb BK137 hb) (below_step bes hb) hbox ((ge hg : w.heap.size ≤ gb138)) ((ge hg : w.heap.size ≤ gb138)) (nl hg BK137) (ng hg BK137) ?_; clear BK137; clear HB; intro BK137 HB BK138 GW138 GE138 NB137_138 NB138_137; clear hb hbox hg; have hnb20 := NB137_138.out; have hnc20 := NB138_137.out; have hcz21_0 := bc BK137 0 rfl; have hcz21_1 := bc BK137 1 rfl; have hfz21_0 := blk_frozen BK137.out 0; have hfz21_1 := blk_frozen BK137.out 1; have hcz22_0 := bc BK138 0 rfl; have hcz22_1 := bc BK138 1 rfl; have hfz22_0 := blk_frozen BK138.out 0; have hfz22_1 := blk_frozen BK138.out 1))
    refine bodyPost_ret (results_cell_row rfl _ _ gb138 68 #[.int .u64 ji17, .int .u64 0] (0, 0) _ rfl (bp BK138) Try.underlying68 rfl (by kernel_rfl)) rfl ?_
    exact ⟨by first | rfl | (simp [errW_none, errW_some] <;> rfl) | (simp only [← hji15, ← hji17]; first | rfl | (simp [errW_none, errW_some] <;> rfl)) | (simp [*, errW_none, errW_some] <;> rfl), bes⟩
   ·
    rw [if_neg c14] at H
    have c14b0 : decide (64 ≤ a1) = false := decide_eq_false c14
    clear c14
    by_cases c23 : 0 ≤ a1
    rotate_left
    ·
     rw [if_neg c23] at H
     exact absurd H (by simp)

    rw [if_pos c23] at H
    have c23b0 := eq_true c23
    have c23b1 : decide (0 ≤ a1) = true := decide_eq_true c23
    clear c23
    obtain ⟨ji24, hji24⟩ : ∃ j_ : Int, (shl .u64 a0_0 a1) = j_ := ⟨_, rfl⟩
    replace H : (if 0 ≤ (wrap64 (64 - a1)) then (some (Go.bits .or .u64 (ji24) (shr .u64 a0_1 (wrap64 (64 - a1))), shl .u64 a0_1 a1)) else (none)) = some (r1, r2) := by first | (rw [hji24] at H; exact H) | (simp only [hji24] at H ⊢; exact H)
    have hji24_ : (IntKind.u64.wrap (a0_0 * 2 ^ min a1.toNat 64)) = ji24 := hji24
    have hji24z : a1 ≤ 64 → (IntKind.u64.wrap (a0_0 * 2 ^ a1.toNat)) = ji24 := shl_small hji24
    obtain ⟨ji25, hji25⟩ : ∃ j_ : Int, (wrap64 (64 - a1)) = j_ := ⟨_, rfl⟩
    replace H : (if 0 ≤ (ji25) then (some (Go.bits .or .u64 (ji24) (shr .u64 a0_1 (ji25)), shl .u64 a0_1 a1)) else (none)) = some (r1, r2) := by first | (rw [hji25] at H; exact H) | (simp only [hji25] at H ⊢; exact H)
    have hji25w : (IntKind.i64.wrap (64 - a1)) = ji25 := (i64_w _).trans hji25
    by_cases c26 : 0 ≤ (ji25)
    rotate_left
    ·
     rw [if_neg c26] at H
     exact absurd H (by simp)
    rw [if_pos c26] at H
    have c26b0 := eq_true c26
    have c26b1 : decide (0 ≤ (ji25)) = true := decide_eq_true c26
    clear c26
    obtain ⟨ji27, hji27⟩ : ∃ j_ : Int, (shr .u64 a0_1 (ji25)) = j_ := ⟨_, rfl⟩
    replace H : (some (Go.bits .or .u64 (ji24) (ji27), shl .u64 a0_1 a1)) = some (r1, r2) := by first | (rw [hji27] at H; exact H) | (simp only [hji27] at H ⊢; exact H)
    have hji27_ : (a0_1 / 2 ^ min (ji25).toNat 64) = ji27 := hji27
    have hji27z : (ji25) ≤ 64 → (a0_1 / 2 ^ (ji25).toNat) = ji27 := shr_small hji27
    have c28b0 := eq_true (of_decide_eq_true (by first | (with_reducible assumption) | assumption) : 0 ≤ a1)
    obtain ⟨ji29, hji29⟩ : ∃ j_ : Int, (shl .u64 a0_1 a1) = j_ := ⟨_, rfl⟩
    replace H : (some (Go.bits .or .u64 (ji24) (ji27), ji29)) = some (r1, r2) := by first | (rw [hji29] at H; exact H) | (simp only [hji29] at H ⊢; exact H)
    have hji29_ : (IntKind.u64.wrap (a0_1 * 2 ^ min a1.toNat 64)) = ji29 := hji29
    have hji29z : a1 ≤ 64 → (IntKind.u64.wrap (a0_1 * 2 ^ a1.toNat)) = ji29 := shl_small hji29
    simp only [Option.some.injEq, Prod.mk.injEq] at H
    obtain ⟨rfl, rfl⟩ := H
    go_enter Try.func40, Try.ntmps40
    try go_wp2_with (first | ((with_reducible refine gate_dst (N := 2) rfl ?_); refine gbox (N := 2) (cs := #[.int .u64 a0_0, .int .u64 a0_1]) (t := 68) ?_; intro gb137 hg w30 hbox hb; refine ax4 (below_step bel hb) hbox ((ge hg : w.heap.size ≤ gb137)) ((ge hg : w.heap.size ≤ gb137)) ?_; clear HB; intro HB BK137 GW137 GE137; clear hb hbox hg) | ((with_reducible refine gate_dst (N := 4) rfl ?_); refine gbox (N := 4) (cs := #[.int .u64 0, .int .u64 0]) (t := 68) ?_; intro gb138 hg w31 hbox hb; refine ax7 (bb BK137 hb) (below_step bes hb) hbox ((ge hg : w.heap.size ≤ gb138)) ((ge hg : w.heap.size ≤ gb138)) (nl hg BK137) (ng hg BK137) ?_; clear BK137; clear HB; intro BK137 HB BK138 GW138 GE138 NB137_138 NB138_137; clear hb hbox hg))
    refine ax3 (blk_drew BK137.out) (blk_drew BK138.out) (below_drew1 HB.out) ?_
    clear BK137 BK138 HB
    intro BK137 BK138 HB
    refine start_ (n := 16) (S := fun w' => w'.cell? ⟨gb137, 0, none⟩ = some (.int .u64 a0_0) ∧ w'.cell? ⟨gb137, 1, none⟩ = some (.int .u64 a0_1)) (ds := []) #[false, false, false, false, false, false, false, false, false, false, false, false, false, false, false, false] (by kernel_rfl) rfl rfl ⟨bk BK137 0, bk BK137 1⟩ (fun hHeld => ?_); refine with_tabW wide_Wide_Left.tab7 wide_Wide_Left.bits7 (fun HT_ HW_ => ?_)
    generalize w31.drew = w32 at BK137 BK138 HB hHeld ⊢
    refine pu 0 22 (lm 16 1) HT_ ?_
    refine pu 2 24 (lm 16 5) HT_ ?_
    refine pu 4 26 (lm 16 21) HT_ ?_
    refine pu 6 28 (lm 16 85) HT_ ?_
    refine pu 7 29 (lm 16 213) HT_ ?_
    refine pu 10 32 (lm 16 1237) HT_ ?_
    refine pu 12 34 (lm 16 5333) HT_ ?_
    refine ta 1 23 (lm 16 5335) HT_ HW_ hHeld ?_
    refine pu 3 25 (lm 16 5343) HT_ ?_
    refine ta 5 27 (lm 16 5375) HT_ HW_ hHeld ?_
    refine pu 8 30 (lm 16 5631) HT_ ?_
    refine pu 9 31 (lm 16 6143) HT_ ?_
    refine ta 11 33 (lm 16 8191) HT_ HW_ hHeld ?_
    refine pu 13 35 (lm 16 16383) HT_ ?_
    refine pu 14 36 (lm 16 32767) HT_ ?_
    refine on 15 none (lm 16 65535) HT_ (fun K hK => ?_)
    have hs33 : w32.cell? ⟨gb138, 0, none⟩ = some (.int .u64 0) := bk BK138 0
    have hfs33 := blk_frozen BK138.out 0
    have hns33_0 := NB137_138.out
    have hms33_0 := NB138_137.out
    have hs34 : w32.cell? ⟨gb138, 1, none⟩ = some (.int .u64 0) := bk BK138 1
    have hfs34 := blk_frozen BK138.out 1
    have hns34_0 := NB137_138.out
    have hms34_0 := NB138_137.out
    refine skip_ (w1 := ?_) (by rfl) rfl ?_ ?_
    rotate_left
    ·
     go_simp
     rfl
    refine hK.out _ _ ⟨((cell_far (p := ⟨gb138, _, none⟩) NB137_138.out _).trans (((cell_far (p := ⟨gb138, _, none⟩) NB137_138.out _).trans (hHeld.1)))), ((cell_far (p := ⟨gb138, _, none⟩) NB137_138.out _).trans (((cell_far (p := ⟨gb138, _, none⟩) NB137_138.out _).trans (hHeld.2))))⟩ (fun hHeld => ?_)
    clear hK K
    refine done_ (done_of HT_.out (by kernel_rfl)) ?_
    try go_wp2
    refine bodyPost_ret (results_cell_row rfl _ _ gb138 68 #[.int .u64 (Go.bits .or .u64 (ji24) (ji27)), .int .u64 ji29] (0, 0) _ rfl (bp BK138) Try.underlying68 rfl (by kernel_rfl)) rfl ?_
    exact ⟨by first | rfl | (simp [errW_none, errW_some] <;> rfl) | (simp only [← hji24, ← hji25, ← hji27, ← hji29]; first | rfl | (simp [errW_none, errW_some] <;> rfl)) | (simp [*, errW_none, errW_some] <;> rfl), bes⟩
/-! ### wide_Wide_Zero: function 44 -/
def wide_Wide_Zero.f (a0_0 : Int) (a0_1 : Int) : Option (Bool) := some ((Go.bits .or .u64 a0_0 a0_1) == 0)
set_option maxHeartbeats 8000000 in
set_option maxRecDepth 100000 in
theorem wide_Wide_Zero.calls (a0_0 : Int) (a0_1 : Int) (r : Bool) (w : World) (h : wide_Wide_Zero.f a0_0 a0_1 = some r) :
  Calls Try.prog 44 #[.agg #[.int .u64 a0_0, .int .u64 a0_1]] w fun e w' => e = .returned (.bool r) ∧ Below w.heap.size w w' := by
 have hu68 := Try.underlying68
 have HB := Aside0.mk (Below.refl w.heap.size w)
 have H : (some ((Go.bits .or .u64 a0_0 a0_1) == 0)) = some r := h
 clear h
 obtain rfl := Option.some.inj H
 go_enter Try.func44, Try.ntmps44
 go_wp2_with (first | ((with_reducible refine gate_dst (N := 1) rfl ?_); refine gbox (N := 1) (cs := #[.int .u64 a0_0, .int .u64 a0_1]) (t := 68) ?_; intro gb139 hg w2 hbox hb; refine ax4 (below_step bel hb) hbox ((ge hg : w.heap.size ≤ gb139)) ((ge hg : w.heap.size ≤ gb139)) ?_; clear HB; intro HB BK139 GW139 GE139; clear hb hbox hg; have hcz3_0 := bc BK139 0 rfl; have hcz3_1 := bc BK139 1 rfl; have hfz3_0 := blk_frozen BK139.out 0; have hfz3_1 := blk_frozen BK139.out 1))
 go_ret
 exact ⟨er, bes⟩

/-! ### wide_Wide_Right: function 41 -/
def wide_Wide_Right.j0 : Nat → Int → Int → Int → Int → Int → Option (Int × Int × Bool)
 | 0, _, _, _, _, _ => none
 | k + 1, x1, x141000, x141001, x143000, x143001 => (wide_Wide_Left.f x143000 x143001 x1).bind fun bt143 => (if (!(bt143.1 == x141000) || (!(bt143.2 == x141001))) = true then (some (x143000, x143001, true)) else (if x1 ≥ 128 then ((wide_Wide_Zero.f x141000 x141001).bind fun t145 => (some (x143000, x143001, !t145))) else (some (x143000, x143001, false))))
def wide_Wide_Right.f (k : Nat) (a0_0 : Int) (a0_1 : Int) (a1 : Int) : Option (Int × Int × Bool) := if a1 ≤ 0 then (some (a0_0, a0_1, false)) else (if a1 ≥ 128 then (wide_Wide_Right.j0 k a1 a0_0 a0_1 0 0) else (if a1 ≥ 64 then (if 0 ≤ (wrap64 (a1 - 64)) then (wide_Wide_Right.j0 k a1 a0_0 a0_1 0 (shr .u64 a0_0 (wrap64 (a1 - 64)))) else (none)) else (if 0 ≤ a1 then (if 0 ≤ (wrap64 (64 - a1)) then (wide_Wide_Right.j0 k a1 a0_0 a0_1 (shr .u64 a0_0 a1) (Go.bits .or .u64 (shl .u64 a0_0 (wrap64 (64 - a1))) (shr .u64 a0_1 a1))) else (none)) else (none))))
theorem wide_Wide_Right.mono_l : ∀ k, (∀ y0 y1 y2 y3 y4, LeO (wide_Wide_Right.j0 k y0 y1 y2 y3 y4) (wide_Wide_Right.j0 (k + 1) y0 y1 y2 y3 y4))
 | 0 => fun _ _ _ _ _ r h => by simp [wide_Wide_Right.j0] at h
 | k + 1 => by
  have ih0 := wide_Wide_Right.mono_l k
  ·
   intro y0 y1 y2 y3 y4
   unfold wide_Wide_Right.j0
   repeat' with_reducible first | apply ih0 | exact LeO.refl _ | exact LeO.none _ | refine LeO.ite ?_ ?_ | refine LeO.bind ?_ (fun _ => ?_)
theorem wide_Wide_Right.mono : ∀ a0 a1 a2 k, LeO (wide_Wide_Right.f k a0 a1 a2) (wide_Wide_Right.f (k + 1) a0 a1 a2) := by
 intro a0 a1 a2 k
 have ih0 := wide_Wide_Right.mono_l k
 unfold wide_Wide_Right.f
 repeat' with_reducible first | apply ih0 | exact LeO.refl _ | exact LeO.none _ | refine LeO.ite ?_ ?_ | refine LeO.bind ?_ (fun _ => ?_)
def wide_Wide_Right.T2 : Bool × List (List Nat × List Nat) := (true, [([], []), ([0], [0]), ([], []), ([1, 2], [1, 2]), ([], []), ([4], [4]), ([], []), ([6], [6]), ([5, 7], [5, 7]), ([], []), ([9], [9]), ([], []), ([10, 11], [10, 11]), ([8, 12], [8, 12]), ([3, 13], [3, 13]), ([14, 0, 1, 2, 3, 4, 5, 6, 7, 8, 9, 10, 11, 12, 13, 14], [14])])
def wide_Wide_Right.B2 : List Nat := [0, 1, 0, 7, 0, 16, 0, 64, 240, 0, 512, 0, 3584, 8176, 16383, 32767]
theorem wide_Wide_Right.tab2 : rtab .any (opsOf Try.f41 2) = wide_Wide_Right.T2 := by kernel_rfl
theorem wide_Wide_Right.bits2 : waitsOk wide_Wide_Right.T2.2 wide_Wide_Right.B2 = true := by kernel_rfl
def wide_Wide_Right.T8 : Bool × List (List Nat × List Nat) := (true, [([], []), ([], []), ([], []), ([1, 2], [1, 2]), ([], []), ([3, 4], [3, 4]), ([5, 3], [5]), ([6], [6]), ([7, 6], [6, 7]), ([8, 6, 6], [6, 8]), ([9], [9]), ([10, 9, 9], [9, 10]), ([11, 9], [9, 11]), ([9, 12, 6], [6, 9, 12]), ([6, 13], [6, 13]), ([0, 11, 0], [0]), ([14, 15, 0, 1, 2, 3, 4, 5, 6, 7, 8, 9, 10, 11, 12, 13, 14, 15], [14])])
def wide_Wide_Right.B8 : List Nat := [0, 0, 0, 6, 0, 30, 62, 126, 254, 510, 1022, 2046, 4094, 8190, 16382, 4095, 65535]
theorem wide_Wide_Right.tab8 : rtab .any (opsOf Try.f41 8) = wide_Wide_Right.T8 := by kernel_rfl
theorem wide_Wide_Right.bits8 : waitsOk wide_Wide_Right.T8.2 wide_Wide_Right.B8 = true := by kernel_rfl
set_option maxHeartbeats 8000000 in
set_option maxRecDepth 100000 in
theorem wide_Wide_Right.calls (k : Nat) (a0_0 : Int) (a0_1 : Int) (a1 : Int) (r1 : Int) (r2 : Int) (r3 : Bool) (w : World) (h : wide_Wide_Right.f k a0_0 a0_1 a1 = some (r1, r2, r3)) :
  Calls Try.prog 41 #[.agg #[.int .u64 a0_0, .int .u64 a0_1], .int .i64 a1] w fun e w' => e = .returned (.tuple #[.agg #[.int .u64 r1, .int .u64 r2], .bool r3]) ∧ Below w.heap.size w w' := by
 have hu68 := Try.underlying68
 have HB := Aside0.mk (Below.refl w.heap.size w)
 have H : (if a1 ≤ 0 then (some (a0_0, a0_1, false)) else (if a1 ≥ 128 then (wide_Wide_Right.j0 k a1 a0_0 a0_1 0 0) else (if a1 ≥ 64 then (if 0 ≤ (wrap64 (a1 - 64)) then (wide_Wide_Right.j0 k a1 a0_0 a0_1 0 (shr .u64 a0_0 (wrap64 (a1 - 64)))) else (none)) else (if 0 ≤ a1 then (if 0 ≤ (wrap64 (64 - a1)) then (wide_Wide_Right.j0 k a1 a0_0 a0_1 (shr .u64 a0_0 a1) (Go.bits .or .u64 (shl .u64 a0_0 (wrap64 (64 - a1))) (shr .u64 a0_1 a1))) else (none)) else (none))))) = some (r1, r2, r3) := h
 clear h
 have HC3 := Aside0.mk H
 clear H
 go_enter Try.func41, Try.ntmps41
 go_upto_block 0 with (first | ((with_reducible refine gate_dst (N := 2) rfl ?_); refine gbox (N := 2) (cs := #[.int .u64 a0_0, .int .u64 a0_1]) (t := 68) ?_; intro gb140 hg w4 hbox hb; refine ax4 (below_step bel hb) hbox ((ge hg : w.heap.size ≤ gb140)) ((ge hg : w.heap.size ≤ gb140)) ?_; clear HB; intro HB BK140 GW140 GE140; clear hb hbox hg) | ((with_reducible refine gate_dst (N := 4) rfl ?_); refine gbox (N := 4) (cs := #[.int .u64 0, .int .u64 0]) (t := 68) ?_; intro gb141 hg w5 hbox hb; refine ax7 (bb BK140 hb) (below_step bes hb) hbox ((ge hg : w.heap.size ≤ gb141)) ((ge hg : w.heap.size ≤ gb141)) (nl hg BK140) (ng hg BK140) ?_; clear BK140; clear HB; intro BK140 HB BK141 GW141 GE141 NB140_141 NB141_140; clear hb hbox hg) | ((with_reducible refine gate_dst (N := 6) rfl ?_); refine gbox (N := 6) (cs := #[.int .u64 0, .int .u64 0]) (t := 68) ?_; intro gb142 hg w6 hbox hb; refine ax10 (bb BK140 hb) (bb BK141 hb) (below_step bes hb) hbox ((ge hg : w.heap.size ≤ gb142)) ((ge hg : w.heap.size ≤ gb142)) (nl hg BK140) (ng hg BK140) (nl hg BK141) (ng hg BK141) ?_; clear BK140; clear BK141; clear HB; intro BK140 BK141 HB BK142 GW142 GE142 NB140_142 NB142_140 NB141_142 NB142_141; clear hb hbox hg))
 (try simp only [Act.put, sa0, sa1, sa2])
 go_cut [] (fun wc => ∃ (kq : Nat) (x142000_2 : Int) (x142001_2 : Int) (x143000_2 : Int) (x143001_2 : Int), Aside0 (wide_Wide_Right.j0 kq a1 a0_0 a0_1 x143000_2 x143001_2 = some (r1, r2, r3)) ∧ Aside0 (kq ≤ k) ∧ Aside0 (wc.heap[gb140]? = some (.cells #[.int .u64 a0_0, .int .u64 a0_1] 68 (0, 0))) ∧ Aside0 (wc.heap[gb141]? = some (.cells #[.int .u64 x142000_2, .int .u64 x142001_2] 68 (0, 0))) ∧ Aside0 (wc.heap[gb142]? = some (.cells #[.int .u64 x143000_2, .int .u64 x143001_2] 68 (0, 0))) ∧ Aside0 (Below w.heap.size w wc))
 case first =>
  have H := HC3.out
  clear HC3
  by_cases c7 : a1 ≤ 0
  ·
   rw [if_pos c7] at H
   have c7b0 : decide (a1 ≤ 0) = true := decide_eq_true c7
   clear c7
   (first | rw [c7b0] | (simp only [i64_w, i32_w]; rw [c7b0]) | skip)
   simp only [Option.some.injEq, Prod.mk.injEq] at H
   obtain ⟨rfl, rfl, rfl⟩ := H
   have hnb8 := NB140_141.out
   have hnc8 := NB141_140.out
   have hnb9 := NB140_142.out
   have hnc9 := NB142_140.out
   have hcz10_0 := bc BK140 0 rfl
   have hcz10_1 := bc BK140 1 rfl
   have hfz10_0 := blk_frozen BK140.out 0
   have hfz10_1 := blk_frozen BK140.out 1
   have hnb11 := NB141_142.out
   have hnc11 := NB142_141.out
   have hcz12_0 := bc BK141 0 rfl
   have hcz12_1 := bc BK141 1 rfl
   have hfz12_0 := blk_frozen BK141.out 0
   have hfz12_1 := blk_frozen BK141.out 1
   go_wp2
   refine bodyPost_ret (results_ct rfl _ _ gb141 68 #[.int .u64 a0_0, .int .u64 a0_1] (0, 0) _ rfl (bp BK141) Try.underlying68 rfl (by kernel_rfl)) rfl ?_
   exact ⟨er, bes⟩
  ·
   rw [if_neg c7] at H
   have c7b0 : decide (a1 ≤ 0) = false := decide_eq_false c7
   clear c7
   (first | rw [c7b0] | (simp only [i64_w, i32_w]; rw [c7b0]) | skip)
   by_cases c13 : a1 ≥ 128
   ·
    rw [if_pos c13] at H
    have c13b0 : decide (128 ≤ a1) = true := decide_eq_true c13
    clear c13
    have H' := Aside0.mk H
    clear H
    go_wp2
    go_meet
    case rel => exact ⟨_, (0), (0), (0), (0), H', ⟨by first | omega | exact Nat.le_refl _⟩, ⟨kb BK140⟩, ⟨kb BK141⟩, ⟨kb BK142⟩, ⟨bes⟩⟩
   ·
    rw [if_neg c13] at H
    have c13b0 : decide (128 ≤ a1) = false := decide_eq_false c13
    clear c13
    by_cases c14 : a1 ≥ 64
    ·
     rw [if_pos c14] at H
     have c14b0 : decide (64 ≤ a1) = true := decide_eq_true c14
     clear c14
     obtain ⟨ji15, hji15⟩ : ∃ j_ : Int, (wrap64 (a1 - 64)) = j_ := ⟨_, rfl⟩
     replace H : (if 0 ≤ (ji15) then (wide_Wide_Right.j0 k a1 a0_0 a0_1 0 (shr .u64 a0_0 (ji15))) else (none)) = some (r1, r2, r3) := by first | (rw [hji15] at H; exact H) | (simp only [hji15] at H ⊢; exact H)
     have hji15w : (IntKind.i64.wrap (a1 - 64)) = ji15 := (i64_w _).trans hji15
     by_cases c16 : 0 ≤ (ji15)
     rotate_left
     ·
      rw [if_neg c16] at H
      exact absurd H (by simp)
     rw [if_pos c16] at H
     have c16b0 := eq_true c16
     have c16b1 : decide (0 ≤ (ji15)) = true := decide_eq_true c16
     clear c16
     obtain ⟨ji17, hji17⟩ : ∃ j_ : Int, (shr .u64 a0_0 (ji15)) = j_ := ⟨_, rfl⟩
     replace H : (wide_Wide_Right.j0 k a1 a0_0 a0_1 0 ji17) = some (r1, r2, r3) := by first | (rw [hji17] at H; exact H) | (simp only [hji17] at H ⊢; exact H)
     have hji17_ : (a0_0 / 2 ^ min (ji15).toNat 64) = ji17 := hji17
     have hji17z : (ji15) ≤ 64 → (a0_0 / 2 ^ (ji15).toNat) = ji17 := shr_small hji17
     have H' := Aside0.mk H
     clear H
     have hnb18 := NB140_141.out
     have hnc18 := NB141_140.out
     have hnb19 := NB140_142.out
     have hnc19 := NB142_140.out
     have hcz20_0 := bc BK140 0 rfl
     have hcz20_1 := bc BK140 1 rfl
     have hfz20_0 := blk_frozen BK140.out 0
     have hfz20_1 := blk_frozen BK140.out 1
     have hnb21 := NB142_141.out
     have hnc21 := NB141_142.out
     have hcz22_0 := bc BK142 0 rfl
     have hcz22_1 := bc BK142 1 rfl
     have hfz22_0 := blk_frozen BK142.out 0
     have hfz22_1 := blk_frozen BK142.out 1
     go_wp2
     go_meet
     case rel => exact ⟨_, (0), (0), (0), (ji17), H', ⟨by first | omega | exact Nat.le_refl _⟩, ⟨bf BK140 NB140_142⟩, ⟨bf BK141 NB141_142⟩, ⟨bp BK142⟩, ⟨bes⟩⟩
    ·
     rw [if_neg c14] at H
     have c14b0 : decide (64 ≤ a1) = false := decide_eq_false c14
     clear c14
     by_cases c23 : 0 ≤ a1
     rotate_left
     ·
      rw [if_neg c23] at H
      exact absurd H (by simp)
     rw [if_pos c23] at H
     have c23b0 := eq_true c23
     have c23b1 : decide (0 ≤ a1) = true := decide_eq_true c23
     clear c23
     obtain ⟨ji24, hji24⟩ : ∃ j_ : Int, (shr .u64 a0_0 a1) = j_ := ⟨_, rfl⟩
     replace H : (if 0 ≤ (wrap64 (64 - a1)) then (wide_Wide_Right.j0 k a1 a0_0 a0_1 ji24 (Go.bits .or .u64 (shl .u64 a0_0 (wrap64 (64 - a1))) (shr .u64 a0_1 a1))) else (none)) = some (r1, r2, r3) := by first | (rw [hji24] at H; exact H) | (simp only [hji24] at H ⊢; exact H)
     have hji24_ : (a0_0 / 2 ^ min a1.toNat 64) = ji24 := hji24
     have hji24z : a1 ≤ 64 → (a0_0 / 2 ^ a1.toNat) = ji24 := shr_small hji24
     obtain ⟨ji25, hji25⟩ : ∃ j_ : Int, (wrap64 (64 - a1)) = j_ := ⟨_, rfl⟩
     replace H : (if 0 ≤ (ji25) then (wide_Wide_Right.j0 k a1 a0_0 a0_1 ji24 (Go.bits .or .u64 (shl .u64 a0_0 (ji25)) (shr .u64 a0_1 a1))) else (none)) = some (r1, r2, r3) := by first | (rw [hji25] at H; exact H) | (simp only [hji25] at H ⊢; exact H)
     have hji25w : (IntKind.i64.wrap (64 - a1)) = ji25 := (i64_w _).trans hji25
     by_cases c26 : 0 ≤ (ji25)
     rotate_left
     ·
      rw [if_neg c26] at H
      exact absurd H (by simp)
     rw [if_pos c26] at H
     have c26b0 := eq_true c26
     have c26b1 : decide (0 ≤ (ji25)) = true := decide_eq_true c26
     clear c26
     obtain ⟨ji27, hji27⟩ : ∃ j_ : Int, (shl .u64 a0_0 (ji25)) = j_ := ⟨_, rfl⟩
     replace H : (wide_Wide_Right.j0 k a1 a0_0 a0_1 ji24 (Go.bits .or .u64 (ji27) (shr .u64 a0_1 a1))) = some (r1, r2, r3) := by first | (rw [hji27] at H; exact H) | (simp only [hji27] at H ⊢; exact H)
     have hji27_ : (IntKind.u64.wrap (a0_0 * 2 ^ min (ji25).toNat 64)) = ji27 := hji27
     have hji27z : (ji25) ≤ 64 → (IntKind.u64.wrap (a0_0 * 2 ^ (ji25).toNat)) = ji27 := shl_small hji27
     have c28b0 := eq_true (of_decide_eq_true (by first | (with_reducible assumption) | assumption) : 0 ≤ a1)
     obtain ⟨ji29, hji29⟩ : ∃ j_ : Int, (shr .u64 a0_1 a1) = j_ := ⟨_, rfl⟩
     replace H : (wide_Wide_Right.j0 k a1 a0_0 a0_1 ji24 (Go.bits .or .u64 (ji27) (ji29))) = some (r1, r2, r3) := by first | (rw [hji29] at H; exact H) | (simp only [hji29] at H ⊢; exact H)
     have hji29_ : (a0_1 / 2 ^ min a1.toNat 64) = ji29 := hji29
     have hji29z : a1 ≤ 64 → (a0_1 / 2 ^ a1.toNat) = ji29 := shr_small hji29
     have H' := Aside0.mk H
     clear H
     try go_wp2
     refine ax4 (blk_drew BK140.out) (blk_drew BK141.out) (blk_drew BK142.out) (below_drew1 HB.out) ?_
     clear BK140 BK141 BK142 HB
     intro BK140 BK141 BK142 HB
     refine start_ (n := 16) (S := fun w' => w'.cell? ⟨gb140, 0, none⟩ = some (.int .u64 a0_0) ∧ w'.cell? ⟨gb140, 1, none⟩ = some (.int .u64 a0_1)) (ds := []) #[false, false, false, false, false, false, false, false, false, false, false, false, false, false, false, false] (by kernel_rfl) rfl rfl ⟨bk BK140 0, bk BK140 1⟩ (fun hHeld => ?_); refine with_tabW wide_Wide_Right.tab2 wide_Wide_Right.bits2 (fun HT_ HW_ => ?_)
     generalize w6.drew = w30 at BK140 BK141 BK142 HB hHeld ⊢
     refine pu 0 7 (lm 16 1) HT_ ?_
     refine pu 2 9 (lm 16 5) HT_ ?_
     refine pu 4 11 (lm 16 21) HT_ ?_
     refine pu 6 13 (lm 16 85) HT_ ?_
     refine pu 7 14 (lm 16 213) HT_ ?_
     refine pu 9 16 (lm 16 725) HT_ ?_
     refine pu 11 18 (lm 16 2773) HT_ ?_
     refine ta 1 8 (lm 16 2775) HT_ HW_ hHeld ?_
     refine pu 3 10 (lm 16 2783) HT_ ?_
     refine ta 5 12 (lm 16 2815) HT_ HW_ hHeld ?_
     refine pu 8 15 (lm 16 3071) HT_ ?_
     refine ta 10 17 (lm 16 4095) HT_ HW_ hHeld ?_
     refine pu 12 19 (lm 16 8191) HT_ ?_
     refine pu 13 20 (lm 16 16383) HT_ ?_
     refine pu 14 21 (lm 16 32767) HT_ ?_
     refine on 15 none (lm 16 65535) HT_ (fun K hK => ?_)
     have hs31 : w30.cell? ⟨gb142, 0, none⟩ = some (.int .u64 0) := bk BK142 0
     have hfs31 := blk_frozen BK142.out 0
     have hns31_0 := NB140_142.out
     have hns31_1 := NB141_142.out
     have hms31_0 := NB142_140.out
     have hms31_1 := NB142_141.out
     have hs32 : w30.cell? ⟨gb142, 1, none⟩ = some (.int .u64 0) := bk BK142 1
     have hfs32 := blk_frozen BK142.out 1
     have hns32_0 := NB140_142.out
     have hns32_1 := NB141_142.out
     have hms32_0 := NB142_140.out
     have hms32_1 := NB142_141.out
     refine skip_ (w1 := ?_) (by rfl) rfl ?_ ?_
     rotate_left
     ·
      go_simp
      rfl
     refine hK.out _ _ ⟨((cell_far (p := ⟨gb142, _, none⟩) NB140_142.out _).trans (((cell_far (p := ⟨gb142, _, none⟩) NB140_142.out _).trans (hHeld.1)))), ((cell_far (p := ⟨gb142, _, none⟩) NB140_142.out _).trans (((cell_far (p := ⟨gb142, _, none⟩) NB140_142.out _).trans (hHeld.2))))⟩ (fun hHeld => ?_)
     clear hK K
     refine done_ (done_of HT_.out (by kernel_rfl)) ?_
     try go_wp2
     go_meet
     case rel => exact ⟨_, (0), (0), (ji24), (Go.bits .or .u64 (ji27) (ji29)), H', ⟨by first | omega | exact Nat.le_refl _⟩, ⟨bf BK140 NB140_142⟩, ⟨bf BK141 NB141_142⟩, ⟨bp BK142⟩, ⟨bes⟩⟩
 case rest =>
  clear HC3
  try clear c1
  try clear c2
  try clear p2
  try clear c4
  try clear p6
  try clear c7
  try clear c7b0
  try clear c8
  try clear c9
  try clear c11
  try clear c13
  try clear c13b0
  try clear c14
  try clear c14b0
  try clear c16
  try clear c16b0
  try clear c16b1
  try clear c18
  try clear c19
  try clear c21
  try clear c23
  try clear c23b0
  try clear c23b1
  try clear c26
  try clear c26b0
  try clear c26b1
  try clear c28
  try clear c28b0
  try clear hcz10_0
  try clear hcz10_1
  try clear hcz12_0
  try clear hcz12_1
  try clear hcz20_0
  try clear hcz20_1
  try clear hcz22_0
  try clear hcz22_1
  try clear hfz10_0
  try clear hfz10_1
  try clear hfz12_0
  try clear hfz12_1
  try clear hfz20_0
  try clear hfz20_1
  try clear hfz22_0
  try clear hfz22_1
  obtain ⟨kq, x142000_2, x142001_2, x143000_2, x143001_2, HA, HJ2, BK140, BK141, BK142, HB⟩ := hcut
  cases kq with
  | zero => exact absurd HA.out (by simp [wide_Wide_Right.j0])
  | succ kj2 =>
   have H := HA.out
   clear HA
   simp only [wide_Wide_Right.j0] at H
   obtain ⟨⟨t143, t144⟩, A330, H⟩ := Option.bind_eq_some_iff.mp H
   (try dsimp -simprocs only at H)
   have A33 := Aside0.mk A330
   clear A330
   by_cases c34 : (!(t143 == a0_0) || (!(t144 == a0_1))) = true
   ·
    rw [if_pos c34] at H
    have c34b0 : (!(t143 == a0_0) || (!(t144 == a0_1))) = true := c34
    clear c34
    simp only [Option.some.injEq, Prod.mk.injEq] at H
    obtain ⟨rfl, rfl, rfl⟩ := H
    try go_wp2
    refine ax4 (blk_drew BK140.out) (blk_drew BK141.out) (blk_drew BK142.out) (below_drew1 HB.out) ?_
    clear BK140 BK141 BK142 HB
    intro BK140 BK141 BK142 HB
    refine start_ (n := 17) (S := fun w' => w'.cell? ⟨gb142, 0, none⟩ = some (.int .u64 x143000_2) ∧ w'.cell? ⟨gb142, 1, none⟩ = some (.int .u64 x143001_2) ∧ w'.cell? ⟨gb140, 0, none⟩ = some (.int .u64 a0_0) ∧ w'.cell? ⟨gb140, 1, none⟩ = some (.int .u64 a0_1)) (ds := []) #[false, false, false, false, false, false, false, false, false, false, false, false, false, false, false, false, false] (by kernel_rfl) rfl rfl ⟨bk BK142 0, bk BK142 1, bk BK140 0, bk BK140 1⟩ (fun hHeld => ?_); refine with_tabW wide_Wide_Right.tab8 wide_Wide_Right.bits8 (fun HT_ HW_ => ?_)
    generalize wc.drew = w35 at BK140 BK141 BK142 HB hHeld ⊢
    refine pu 2 40 (lm 17 4) HT_ ?_
    refine ta 0 38 (lm 17 5) HT_ HW_ hHeld ?_
    refine ta 1 39 (lm 17 7) HT_ HW_ hHeld ?_
    refine ta 4 42 (lm 17 23) HT_ HW_ hHeld ?_
    refine on 3 (some 41) (lm 17 31) HT_ (fun K hK => ?_)
    refine goes_ Try.func40 (by kernel_rfl) rfl #[.agg #[.int .u64 x143000_2, .int .u64 x143001_2], .int .i64 a1] (by rfl) rfl rfl ga ?_
    with_reducible refine (wide_Wide_Left.calls x143000_2 x143001_2 a1 t143 t144 _ A33.out).mono ?_
    rintro e w36 ⟨rfl, hb⟩
    refine ⟨_, rfl, ?_⟩
    refine ax4 (bb BK140 hb) (bb BK141 hb) (bb BK142 hb) (below_step bes hb) ?_
    clear BK140 BK141 BK142 HB
    intro BK140 BK141 BK142 HB
    (try clear hb)
    (try clear hb2)
    (try clear hk)
    (try clear hi)
    refine hK.out _ _ ⟨bk BK142 0, bk BK142 1, bk BK140 0, bk BK140 1⟩ (fun hHeld => ?_)
    clear hK K
    refine no 41 ?_
    refine pu 5 43 (lm 17 63) HT_ ?_
    refine pu 6 44 (lm 17 127) HT_ ?_
    refine po 7 45 (lm 17 255) HT_ ?_
    refine po 8 46 (lm 17 511) HT_ ?_
    refine po 9 47 (lm 17 1023) HT_ ?_
    refine po 10 48 (lm 17 2047) HT_ ?_
    refine po 11 49 (lm 17 4095) HT_ ?_
    refine po 12 50 (lm 17 8191) HT_ ?_
    refine po 13 51 (lm 17 16383) HT_ ?_
    refine pu 14 52 (lm 17 32767) HT_ ?_
    refine on 15 none (lm 17 65535) HT_ (fun K hK => ?_)
    have hs37 : w36.cell? ⟨gb141, 0, none⟩ = some (.int .u64 x142000_2) := bk BK141 0
    have hfs37 := blk_frozen BK141.out 0
    have hns37_0 := NB140_141.out
    have hns37_2 := NB142_141.out
    have hms37_0 := NB141_140.out
    have hms37_2 := NB141_142.out
    have hs38 : w36.cell? ⟨gb141, 1, none⟩ = some (.int .u64 x142001_2) := bk BK141 1
    have hfs38 := blk_frozen BK141.out 1
    have hns38_0 := NB140_141.out
    have hns38_2 := NB142_141.out
    have hms38_0 := NB141_140.out
    have hms38_2 := NB141_142.out
    refine skip_ (w1 := ?_) (by rfl) rfl ?_ ?_
    rotate_left
    ·
     go_simp
     rfl
    refine hK.out _ _ ⟨((cell_far (p := ⟨gb141, _, none⟩) NB142_141.out _).trans (((cell_far (p := ⟨gb141, _, none⟩) NB142_141.out _).trans (hHeld.1)))), ((cell_far (p := ⟨gb141, _, none⟩) NB142_141.out _).trans (((cell_far (p := ⟨gb141, _, none⟩) NB142_141.out _).trans (hHeld.2.1)))), ((cell_far (p := ⟨gb141, _, none⟩) NB140_141.out _).trans (((cell_far (p := ⟨gb141, _, none⟩) NB140_141.out _).trans (hHeld.2.2.1)))), ((cell_far (p := ⟨gb141, _, none⟩) NB140_141.out _).trans (((cell_far (p := ⟨gb141, _, none⟩) NB140_141.out _).trans (hHeld.2.2.2))))⟩ (fun hHeld => ?_)
    clear hK K
    refine pu 16 5 (lm 17 131071) HT_ ?_
    refine done_ (done_of HT_.out (by kernel_rfl)) ?_
    try go_wp2
    refine bodyPost_ret (results_ct rfl _ _ gb141 68 #[.int .u64 x143000_2, .int .u64 x143001_2] (0, 0) _ rfl (bp BK141) Try.underlying68 rfl (by kernel_rfl)) rfl ?_
    exact ⟨er, bes⟩
   ·
    rw [if_neg c34] at H
    have c34b0 : (!(t143 == a0_0) || (!(t144 == a0_1))) = false := by simpa using c34
    clear c34
    by_cases c39 : a1 ≥ 128
    ·
     rw [if_pos c39] at H
     have c39b0 : decide (128 ≤ a1) = true := decide_eq_true c39
     clear c39
     obtain ⟨t145, A400, H⟩ := Option.bind_eq_some_iff.mp H
     (try dsimp -simprocs only at H)
     have A40 := Aside0.mk A400
     clear A400
     simp only [Option.some.injEq, Prod.mk.injEq] at H
     obtain ⟨rfl, rfl, rfl⟩ := H
     try go_wp2
     refine ax4 (blk_drew BK140.out) (blk_drew BK141.out) (blk_drew BK142.out) (below_drew1 HB.out) ?_
     clear BK140 BK141 BK142 HB
     intro BK140 BK141 BK142 HB
     refine start_ (n := 17) (S := fun w' => w'.cell? ⟨gb142, 0, none⟩ = some (.int .u64 x143000_2) ∧ w'.cell? ⟨gb142, 1, none⟩ = some (.int .u64 x143001_2) ∧ w'.cell? ⟨gb140, 0, none⟩ = some (.int .u64 a0_0) ∧ w'.cell? ⟨gb140, 1, none⟩ = some (.int .u64 a0_1)) (ds := []) #[false, false, false, false, false, false, false, false, false, false, false, false, false, false, false, false, false] (by kernel_rfl) rfl rfl ⟨bk BK142 0, bk BK142 1, bk BK140 0, bk BK140 1⟩ (fun hHeld => ?_); refine with_tabW wide_Wide_Right.tab8 wide_Wide_Right.bits8 (fun HT_ HW_ => ?_)
     generalize wc.drew = w41 at BK140 BK141 BK142 HB hHeld ⊢
     refine pu 2 40 (lm 17 4) HT_ ?_
     refine ta 0 38 (lm 17 5) HT_ HW_ hHeld ?_
     refine ta 1 39 (lm 17 7) HT_ HW_ hHeld ?_
     refine ta 4 42 (lm 17 23) HT_ HW_ hHeld ?_
     refine on 3 (some 41) (lm 17 31) HT_ (fun K hK => ?_)
     refine goes_ Try.func40 (by kernel_rfl) rfl #[.agg #[.int .u64 x143000_2, .int .u64 x143001_2], .int .i64 a1] (by rfl) rfl rfl ga ?_
     with_reducible refine (wide_Wide_Left.calls x143000_2 x143001_2 a1 t143 t144 _ A33.out).mono ?_
     rintro e w42 ⟨rfl, hb⟩
     refine ⟨_, rfl, ?_⟩
     refine ax4 (bb BK140 hb) (bb BK141 hb) (bb BK142 hb) (below_step bes hb) ?_
     clear BK140 BK141 BK142 HB
     intro BK140 BK141 BK142 HB
     (try clear hb)
     (try clear hb2)
     (try clear hk)
     (try clear hi)
     refine hK.out _ _ ⟨bk BK142 0, bk BK142 1, bk BK140 0, bk BK140 1⟩ (fun hHeld => ?_)
     clear hK K
     refine no 41 ?_
     refine pu 5 43 (lm 17 63) HT_ ?_
     refine pu 6 44 (lm 17 127) HT_ ?_
     refine pu 7 45 (lm 17 255) HT_ ?_
     refine pu 8 46 (lm 17 511) HT_ ?_
     refine pu 9 47 (lm 17 1023) HT_ ?_
     refine ta 10 48 (lm 17 2047) HT_ HW_ hHeld ?_
     refine on 11 (some 49) (lm 17 4095) HT_ (fun K hK => ?_)
     refine goes_ Try.func44 (by kernel_rfl) rfl #[.agg #[.int .u64 a0_0, .int .u64 a0_1]] (by rfl) rfl rfl ga ?_
     with_reducible refine (wide_Wide_Zero.calls a0_0 a0_1 t145 _ A40.out).mono ?_
     rintro e w43 ⟨rfl, hb⟩
     refine ⟨_, rfl, ?_⟩
     refine ax4 (bb BK140 hb) (bb BK141 hb) (bb BK142 hb) (below_step bes hb) ?_
     clear BK140 BK141 BK142 HB
     intro BK140 BK141 BK142 HB
     (try clear hb)
     (try clear hb2)
     (try clear hk)
     (try clear hi)
     refine hK.out _ _ ⟨bk BK142 0, bk BK142 1, bk BK140 0, bk BK140 1⟩ (fun hHeld => ?_)
     clear hK K
     refine no 49 ?_
     refine pu 12 50 (lm 17 8191) HT_ ?_
     refine pu 13 51 (lm 17 16383) HT_ ?_
     refine pu 14 52 (lm 17 32767) HT_ ?_
     refine on 15 none (lm 17 65535) HT_ (fun K hK => ?_)
     have hs44 : w43.cell? ⟨gb141, 0, none⟩ = some (.int .u64 x142000_2) := bk BK141 0
     have hfs44 := blk_frozen BK141.out 0
     have hns44_0 := NB140_141.out
     have hns44_2 := NB142_141.out
     have hms44_0 := NB141_140.out
     have hms44_2 := NB141_142.out
     have hs45 : w43.cell? ⟨gb141, 1, none⟩ = some (.int .u64 x142001_2) := bk BK141 1
     have hfs45 := blk_frozen BK141.out 1
     have hns45_0 := NB140_141.out
     have hns45_2 := NB142_141.out
     have hms45_0 := NB141_140.out
     have hms45_2 := NB141_142.out
     refine skip_ (w1 := ?_) (by rfl) rfl ?_ ?_
     rotate_left
     ·
      go_simp
      rfl
     refine hK.out _ _ ⟨((cell_far (p := ⟨gb141, _, none⟩) NB142_141.out _).trans (((cell_far (p := ⟨gb141, _, none⟩) NB142_141.out _).trans (hHeld.1)))), ((cell_far (p := ⟨gb141, _, none⟩) NB142_141.out _).trans (((cell_far (p := ⟨gb141, _, none⟩) NB142_141.out _).trans (hHeld.2.1)))), ((cell_far (p := ⟨gb141, _, none⟩) NB140_141.out _).trans (((cell_far (p := ⟨gb141, _, none⟩) NB140_141.out _).trans (hHeld.2.2.1)))), ((cell_far (p := ⟨gb141, _, none⟩) NB140_141.out _).trans (((cell_far (p := ⟨gb141, _, none⟩) NB140_141.out _).trans (hHeld.2.2.2))))⟩ (fun hHeld => ?_)
     clear hK K
     refine pu 16 5 (lm 17 131071) HT_ ?_
     refine done_ (done_of HT_.out (by kernel_rfl)) ?_
     try go_wp2
     refine bodyPost_ret (results_ct rfl _ _ gb141 68 #[.int .u64 x143000_2, .int .u64 x143001_2] (0, 0) _ rfl (bp BK141) Try.underlying68 rfl (by kernel_rfl)) rfl ?_
     exact ⟨er, bes⟩
    ·
     rw [if_neg c39] at H
     have c39b0 : decide (128 ≤ a1) = false := decide_eq_false c39
     clear c39
     simp only [Option.some.injEq, Prod.mk.injEq] at H
     obtain ⟨rfl, rfl, rfl⟩ := H
     try go_wp2
     refine ax4 (blk_drew BK140.out) (blk_drew BK141.out) (blk_drew BK142.out) (below_drew1 HB.out) ?_
     clear BK140 BK141 BK142 HB
     intro BK140 BK141 BK142 HB
     refine start_ (n := 17) (S := fun w' => w'.cell? ⟨gb142, 0, none⟩ = some (.int .u64 x143000_2) ∧ w'.cell? ⟨gb142, 1, none⟩ = some (.int .u64 x143001_2) ∧ w'.cell? ⟨gb140, 0, none⟩ = some (.int .u64 a0_0) ∧ w'.cell? ⟨gb140, 1, none⟩ = some (.int .u64 a0_1)) (ds := []) #[false, false, false, false, false, false, false, false, false, false, false, false, false, false, false, false, false] (by kernel_rfl) rfl rfl ⟨bk BK142 0, bk BK142 1, bk BK140 0, bk BK140 1⟩ (fun hHeld => ?_); refine with_tabW wide_Wide_Right.tab8 wide_Wide_Right.bits8 (fun HT_ HW_ => ?_)
     generalize wc.drew = w46 at BK140 BK141 BK142 HB hHeld ⊢
     refine pu 2 40 (lm 17 4) HT_ ?_
     refine ta 0 38 (lm 17 5) HT_ HW_ hHeld ?_
     refine ta 1 39 (lm 17 7) HT_ HW_ hHeld ?_
     refine ta 4 42 (lm 17 23) HT_ HW_ hHeld ?_
     refine on 3 (some 41) (lm 17 31) HT_ (fun K hK => ?_)
     refine goes_ Try.func40 (by kernel_rfl) rfl #[.agg #[.int .u64 x143000_2, .int .u64 x143001_2], .int .i64 a1] (by rfl) rfl rfl ga ?_
     with_reducible refine (wide_Wide_Left.calls x143000_2 x143001_2 a1 t143 t144 _ A33.out).mono ?_
     rintro e w47 ⟨rfl, hb⟩
     refine ⟨_, rfl, ?_⟩
     refine ax4 (bb BK140 hb) (bb BK141 hb) (bb BK142 hb) (below_step bes hb) ?_
     clear BK140 BK141 BK142 HB
     intro BK140 BK141 BK142 HB
     (try clear hb)
     (try clear hb2)
     (try clear hk)
     (try clear hi)
     refine hK.out _ _ ⟨bk BK142 0, bk BK142 1, bk BK140 0, bk BK140 1⟩ (fun hHeld => ?_)
     clear hK K
     refine no 41 ?_
     refine pu 5 43 (lm 17 63) HT_ ?_
     refine pu 6 44 (lm 17 127) HT_ ?_
     refine pu 7 45 (lm 17 255) HT_ ?_
     refine pu 8 46 (lm 17 511) HT_ ?_
     refine pu 9 47 (lm 17 1023) HT_ ?_
     refine po 10 48 (lm 17 2047) HT_ ?_
     refine po 11 49 (lm 17 4095) HT_ ?_
     refine po 12 50 (lm 17 8191) HT_ ?_
     refine pu 13 51 (lm 17 16383) HT_ ?_
     refine pu 14 52 (lm 17 32767) HT_ ?_
     refine on 15 none (lm 17 65535) HT_ (fun K hK => ?_)
     have hs48 : w47.cell? ⟨gb141, 0, none⟩ = some (.int .u64 x142000_2) := bk BK141 0
     have hfs48 := blk_frozen BK141.out 0
     have hns48_0 := NB140_141.out
     have hns48_2 := NB142_141.out
     have hms48_0 := NB141_140.out
     have hms48_2 := NB141_142.out
     have hs49 : w47.cell? ⟨gb141, 1, none⟩ = some (.int .u64 x142001_2) := bk BK141 1
     have hfs49 := blk_frozen BK141.out 1
     have hns49_0 := NB140_141.out
     have hns49_2 := NB142_141.out
     have hms49_0 := NB141_140.out
     have hms49_2 := NB141_142.out
     refine skip_ (w1 := ?_) (by rfl) rfl ?_ ?_
     rotate_left
     ·
      go_simp
      rfl
     refine hK.out _ _ ⟨((cell_far (p := ⟨gb141, _, none⟩) NB142_141.out _).trans (((cell_far (p := ⟨gb141, _, none⟩) NB142_141.out _).trans (hHeld.1)))), ((cell_far (p := ⟨gb141, _, none⟩) NB142_141.out _).trans (((cell_far (p := ⟨gb141, _, none⟩) NB142_141.out _).trans (hHeld.2.1)))), ((cell_far (p := ⟨gb141, _, none⟩) NB140_141.out _).trans (((cell_far (p := ⟨gb141, _, none⟩) NB140_141.out _).trans (hHeld.2.2.1)))), ((cell_far (p := ⟨gb141, _, none⟩) NB140_141.out _).trans (((cell_far (p := ⟨gb141, _, none⟩) NB140_141.out _).trans (hHeld.2.2.2))))⟩ (fun hHeld => ?_)
     clear hK K
     refine pu 16 5 (lm 17 131071) HT_ ?_
     refine done_ (done_of HT_.out (by kernel_rfl)) ?_
     try go_wp2
     refine bodyPost_ret (results_ct rfl _ _ gb141 68 #[.int .u64 x143000_2, .int .u64 x143001_2] (0, 0) _ rfl (bp BK141) Try.underlying68 rfl (by kernel_rfl)) rfl ?_
     exact ⟨er, bes⟩

/-! ### bits_Add64: function 50 -/
theorem goesX_ {P : Program} {ops : Array Oper} {Q : Exit → Act → World → Prop} {rest : List Oper} {oi : Oper} {a : Act} {w : World} (N : Option Tmp) (hd : oi.dst = N) (hg : oi.guard = none) {f : FuncId} {os : Array Operand} {ts : Array TypeId}
  (hop : oi.op = .call { callee := .value (.func f), args := os, argTypes := ts }) (args : Array Value) (hargs : os.map a.eval = args) (v : Value) (hx : (callFunc f args).run P w = .ok (.value v) w)
  (h : wpList P ops Q rest (a.put N v) w) : wpList P ops Q (oi :: rest) a w := by
 refine wpList_plain hg fun K hK => ?_
 have hrun : (execOp a.eval oi).run P w = .ok (.value v) w := by
  unfold execOp
  simp [hop, resolve, Deferred.ofValue, invoke, Act.eval, hargs, hx]
 unfold Oper.wp
 rw [hrun, Oper.upon_value]
 subst hd
 exact hK _ _ h
def bits_Add64.f (a0 a1 a2 : Int) : Option (Int × Int) := if 0 ≤ a0 then (if 0 ≤ a1 then (if 0 ≤ a2 then (if a2 ≤ 1 then (some ((a0 + a1 + a2) % 18446744073709551616, (a0 + a1 + a2) / 18446744073709551616)) else none) else none) else none) else none
theorem bits_Add64.run (a0 a1 a2 : Int) (r1 r2 : Int) (w : World) (h : bits_Add64.f a0 a1 a2 = some (r1, r2)) :
  (callFunc 50 #[.int .u64 a0, .int .u64 a1, .int .u64 a2]).run Try.prog w = .ok (.value (.tuple #[.int .u64 r1, .int .u64 r2])) w := by
 unfold bits_Add64.f at h
 by_cases h0 : 0 ≤ a0
 rotate_left
 ·
  rw [if_neg h0] at h; cases h

 by_cases h1 : 0 ≤ a1
 rotate_left
 ·
  rw [if_pos h0, if_neg h1] at h; cases h
 by_cases h2 : 0 ≤ a2
 rotate_left
 ·
  rw [if_pos h0, if_pos h1, if_neg h2] at h; cases h
 by_cases h3 : a2 ≤ 1
 rotate_left
 ·
  rw [if_pos h0, if_pos h1, if_pos h2, if_neg h3] at h; cases h
 rw [if_pos h0, if_pos h1, if_pos h2, if_pos h3] at h
 simp only [Option.some.injEq, Prod.mk.injEq] at h
 obtain ⟨rfl, rfl⟩ := h
 rw [run_callFunc_extern Try.func50 (by kernel_rfl) (by kernel_rfl) (by kernel_rfl) (e := add64Entry) (by kernel_rfl), run_add64 a0 a1 a2 h0 h1 h2 h3]
 rfl
/-! ### wide_Wide_Add: function 42 -/
def wide_Wide_Add.f (a0_0 : Int) (a0_1 : Int) (a1_0 : Int) (a1_1 : Int) : Option (Int × Int × Bool) := (bits_Add64.f a0_1 a1_1 0).bind fun bt149 => ((bits_Add64.f a0_0 a1_0 bt149.2).bind fun bt151 => (some (bt151.1, bt149.1, (bt151.2 == 1))))
set_option maxHeartbeats 8000000 in
set_option maxRecDepth 100000 in
theorem wide_Wide_Add.calls (a0_0 : Int) (a0_1 : Int) (a1_0 : Int) (a1_1 : Int) (r1 : Int) (r2 : Int) (r3 : Bool) (w : World) (h : wide_Wide_Add.f a0_0 a0_1 a1_0 a1_1 = some (r1, r2, r3)) :
  Calls Try.prog 42 #[.agg #[.int .u64 a0_0, .int .u64 a0_1], .agg #[.int .u64 a1_0, .int .u64 a1_1]] w fun e w' => e = .returned (.tuple #[.agg #[.int .u64 r1, .int .u64 r2], .bool r3]) ∧ Below w.heap.size w w' := by
 have hu68 := Try.underlying68
 have HB := Aside0.mk (Below.refl w.heap.size w)
 have H : ((bits_Add64.f a0_1 a1_1 0).bind fun bt149 => ((bits_Add64.f a0_0 a1_0 bt149.2).bind fun bt151 => (some (bt151.1, bt149.1, (bt151.2 == 1))))) = some (r1, r2, r3) := h
 clear h
 obtain ⟨⟨t149, t150⟩, A30, H⟩ := Option.bind_eq_some_iff.mp H
 (try dsimp -simprocs only at H)
 have A3 := Aside0.mk A30
 clear A30
 obtain ⟨⟨t151, t152⟩, A40, H⟩ := Option.bind_eq_some_iff.mp H
 (try dsimp -simprocs only at H)
 have A4 := Aside0.mk A40
 clear A40
 simp only [Option.some.injEq, Prod.mk.injEq] at H
 obtain ⟨rfl, rfl, rfl⟩ := H
 go_enter Try.func42, Try.ntmps42
 go_wp2_with (first | ((with_reducible refine gate_dst (N := 2) rfl ?_); refine gbox (N := 2) (cs := #[.int .u64 a0_0, .int .u64 a0_1]) (t := 68) ?_; intro gb146 hg w5 hbox hb; refine ax4 (below_step bel hb) hbox ((ge hg : w.heap.size ≤ gb146)) ((ge hg : w.heap.size ≤ gb146)) ?_; clear HB; intro HB BK146 GW146 GE146; clear hb hbox hg) | ((with_reducible refine gate_dst (N := 3) rfl ?_); refine gbox (N := 3) (cs := #[.int .u64 a1_0, .int .u64 a1_1]) (t := 68) ?_; intro gb147 hg w6 hbox hb; refine ax7 (bb BK146 hb) (below_step bes hb) hbox ((ge hg : w.heap.size ≤ gb147)) ((ge hg : w.heap.size ≤ gb147)) (nl hg BK146) (ng hg BK146) ?_; clear BK146; clear HB; intro BK146 HB BK147 GW147 GE147 NB146_147 NB147_146; clear hb hbox hg) | ((with_reducible refine gate_dst (N := 4) rfl ?_); refine gbox (N := 4) (cs := #[.int .u64 0, .int .u64 0]) (t := 68) ?_; intro gb148 hg w7 hbox hb; refine ax10 (bb BK146 hb) (bb BK147 hb) (below_step bes hb) hbox ((ge hg : w.heap.size ≤ gb148)) ((ge hg : w.heap.size ≤ gb148)) (nl hg BK146) (ng hg BK146) (nl hg BK147) (ng hg BK147) ?_; clear BK146; clear BK147; clear HB; intro BK146 BK147 HB BK148 GW148 GE148 NB146_148 NB148_146 NB147_148 NB148_147; clear hb hbox hg; have hnb8 := NB146_147.out; have hnc8 := NB147_146.out; have hnb9 := NB146_148.out; have hnc9 := NB148_146.out; have hcz10_0 := bc BK146 0 rfl; have hcz10_1 := bc BK146 1 rfl; have hfz10_0 := blk_frozen BK146.out 0; have hfz10_1 := blk_frozen BK146.out 1; have hnb11 := NB147_148.out; have hnc11 := NB148_147.out; have hcz12_0 := bc BK147 0 rfl; have hcz12_1 := bc BK147 1 rfl; have hfz12_0 := blk_frozen BK147.out 0; have hfz12_1 := blk_frozen BK147.out 1) | ((with_reducible refine gate_callee (f := 50) rfl ?_); refine goesX_ (some 14) rfl rfl rfl #[.int .u64 a0_1, .int .u64 a1_1, .int .u64 0] (by (try simp only [List.map_toArray, List.map_cons, List.map_nil]); first | done | rfl) _ (bits_Add64.run a0_1 a1_1 0 t149 t150 _ A3.out) ?_) | ((with_reducible refine gate_callee (f := 50) rfl ?_); refine goesX_ (some 23) rfl rfl rfl #[.int .u64 a0_0, .int .u64 a1_0, .int .u64 t150] (by (try simp only [List.map_toArray, List.map_cons, List.map_nil]); first | done | rfl) _ (bits_Add64.run a0_0 a1_0 t150 t151 t152 _ A4.out) ?_; have hcz13_0 := bc BK148 0 rfl; have hcz13_1 := bc BK148 1 rfl; have hfz13_0 := blk_frozen BK148.out 0; have hfz13_1 := blk_frozen BK148.out 1))
 refine bodyPost_ret (results_ct rfl _ _ gb148 68 #[.int .u64 t151, .int .u64 t149] (0, 0) _ rfl (bp BK148) Try.underlying68 rfl (by kernel_rfl)) rfl ?_
 exact ⟨er, bes⟩

end Go.Proofs.Ytfogmgcpajndcaa.F
