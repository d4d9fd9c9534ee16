-- Written by a program of this seat's session (mkprint), out of the translation.
import Derived.Test.YtnjobojkoaknpaaDoorShort
import Derived.Test.YtnjobojkoaknpaaDoorFx0
import Derived.Test.YtnjobojkoaknpaaDoorFx1
import Derived.Test.YtnjobojkoaknpaaDoorFx2
namespace Go.Proofs.YtnjobojkoaknpaaDoor.F
open Go.RowKit Go.Proofs.YtnjobojkoaknpaaDoorW.PrintWords Go.Proofs.YtnjobojkoaknpaaDoorW.PrintLast Go.Proofs.YtnjobojkoaknpaaDoorW.PrintMore
attribute [local go_sem] uh uf vv vw qw qp tu ui   -- for this text's walks alone
set_option linter.unusedVariables false
set_option linter.unusedSimpArgs false

attribute [local go_sem high] eqA65
/-! ### ax: function 56 -/
def ax.j0 : Nat → Int → Int → Int → Int → Int → Option (Int × Int × Bool)
 | 0, _, _, _, _, _ => none
 | k + 1, x1, x124000, x124001, x126000, x126001 => (ic.f x126000 x126001 x1).bind fun bt126 => (if (!(bt126.1 == x124000) || (!(bt126.2 == x124001))) = true then (some (x126000, x126001, true)) else (if x1 ≥ 128 then ((lg.f x124000 x124001).bind fun t128 => (some (x126000, x126001, !t128))) else (some (x126000, x126001, false))))
def ax.f (k : Nat) (a0_0 : Int) (a0_1 : Int) (a1 : Int) : Option (Int × Int × Bool) := if a1 ≤ 0 then (some (a0_0, a0_1, false)) else (if a1 ≥ 128 then (ax.j0 k a1 a0_0 a0_1 0 0) else (if a1 ≥ 64 then (if 0 ≤ (wrap64 (a1 - 64)) then (ax.j0 k a1 a0_0 a0_1 0 (shr .u64 a0_0 (wrap64 (a1 - 64)))) else (none)) else (if 0 ≤ a1 then (if 0 ≤ (wrap64 (64 - a1)) then (ax.j0 k a1 a0_0 a0_1 (shr .u64 a0_0 a1) (Go.bits .or .u64 (shl .u64 a0_0 (wrap64 (64 - a1))) (shr .u64 a0_1 a1))) else (none)) else (none))))
theorem ax.jm : ∀ k, (∀ y0 y1 y2 y3 y4, LeO (ax.j0 k y0 y1 y2 y3 y4) (ax.j0 (k + 1) y0 y1 y2 y3 y4))
 | 0 => fun _ _ _ _ _ r h => by simp [ax.j0] at h
 | k + 1 => by
  have ih0 := ax.jm k
  ·
   intro y0 y1 y2 y3 y4
   unfold ax.j0
   repeat' with_reducible first | apply ih0 | exact LeO.refl _ | exact LeO.none _ | refine LeO.ite ?_ ?_ | refine LeO.bind ?_ (fun _ => ?_)
theorem ax.mono : ∀ a0 a1 a2 k, LeO (ax.f k a0 a1 a2) (ax.f (k + 1) a0 a1 a2) := by
 intro a0 a1 a2 k; have ih0 := ax.jm k
 unfold ax.f
 repeat' with_reducible first | apply ih0 | exact LeO.refl _ | exact LeO.none _ | refine LeO.ite ?_ ?_ | refine LeO.bind ?_ (fun _ => ?_)
def ax.T2 : Bool × List (List Nat × List Nat) := (true, [([], []), ([0], [0]), ([], []), ([1, 2], [1, 2]), ([], []), ([4], [4]), ([], []), ([6], [6]), ([5, 7], [5, 7]), ([], []), ([9], [9]), ([], []), ([10, 11], [10, 11]), ([8, 12], [8, 12]), ([3, 13], [3, 13]), ([14, 0, 1, 2, 3, 4, 5, 6, 7, 8, 9, 10, 11, 12, 13, 14], [14])])
def ax.B2 : List Nat := [0, 1, 0, 7, 0, 16, 0, 64, 240, 0, 512, 0, 3584, 8176, 16383, 32767]
theorem ax.tab2 : xe .any (opsOf Tryd.f56 2) = ax.T2 := by kernel_rfl
theorem ax.bits2 : r9 ax.T2.2 ax.B2 = true := by kernel_rfl
def ax.T8 : Bool × List (List Nat × List Nat) := (true, [([], []), ([], []), ([], []), ([1, 2], [1, 2]), ([], []), ([3, 4], [3, 4]), ([5, 3], [5]), ([6], [6]), ([7, 6], [6, 7]), ([8, 6, 6], [6, 8]), ([9], [9]), ([10, 9, 9], [9, 10]), ([11, 9], [9, 11]), ([9, 12, 6], [6, 9, 12]), ([6, 13], [6, 13]), ([0, 11, 0], [0]), ([14, 15, 0, 1, 2, 3, 4, 5, 6, 7, 8, 9, 10, 11, 12, 13, 14, 15], [14])])
def ax.B8 : List Nat := [0, 0, 0, 6, 0, 30, 62, 126, 254, 510, 1022, 2046, 4094, 8190, 16382, 4095, 65535]
theorem ax.tab8 : xe .any (opsOf Tryd.f56 8) = ax.T8 := by kernel_rfl
theorem ax.bits8 : r9 ax.T8.2 ax.B8 = true := by kernel_rfl
set_option maxHeartbeats 8000000 in
set_option maxRecDepth 100000 in
theorem ax.calls (k : Nat) (a0_0 : Int) (a0_1 : Int) (a1 : Int) (r1 : Int) (r2 : Int) (r3 : Bool) (w : World) (h : ax.f k a0_0 a0_1 a1 = some (r1, r2, r3)) :
  Calls Tryd.prog 56 #[.agg #[.int .u64 a0_0, .int .u64 a0_1], .int .i64 a1] w fun e w' => e = .returned (.tuple #[.agg #[.int .u64 r1, .int .u64 r2], .bool r3]) ∧ Below w.heap.size w w' := by
 have hu65 := Tryd.underlying65; have HB := aa.mk (Below.refl w.heap.size w); have H : (if a1 ≤ 0 then (some (a0_0, a0_1, false)) else (if a1 ≥ 128 then (ax.j0 k a1 a0_0 a0_1 0 0) else (if a1 ≥ 64 then (if 0 ≤ (wrap64 (a1 - 64)) then (ax.j0 k a1 a0_0 a0_1 0 (shr .u64 a0_0 (wrap64 (a1 - 64)))) else (none)) else (if 0 ≤ a1 then (if 0 ≤ (wrap64 (64 - a1)) then (ax.j0 k a1 a0_0 a0_1 (shr .u64 a0_0 a1) (Go.bits .or .u64 (shl .u64 a0_0 (wrap64 (64 - a1))) (shr .u64 a0_1 a1))) else (none)) else (none))))) = some (r1, r2, r3) := h; clear h; have HC3 := aa.mk H; clear H; go_enter Tryd.func56, Tryd.ntmps56
 go_upto_block 0 with (first | ((with_reducible refine bq (N := 2) rfl ?_); refine l5 (N := 2) (cs := #[.int .u64 a0_0, .int .u64 a0_1]) (t := 65) ?_; intro gb123 hg w4 hbox hb; refine ax4 (af bel hb) hbox ((ge hg : w.heap.size ≤ gb123)) ((ge hg : w.heap.size ≤ gb123)) ?_; clear HB; intro HB BK123 GW123 GE123; clear hb hbox hg) | ((with_reducible refine bq (N := 4) rfl ?_); refine l5 (N := 4) (cs := #[.int .u64 0, .int .u64 0]) (t := 65) ?_; intro gb124 hg w5 hbox hb; refine ax7 (bb BK123 hb) (af bes hb) hbox ((ge hg : w.heap.size ≤ gb124)) ((ge hg : w.heap.size ≤ gb124)) (nl hg BK123) (ng hg BK123) ?_; clear BK123; clear HB; intro BK123 HB BK124 GW124 GE124 NB123_124 NB124_123; clear hb hbox hg) | ((with_reducible refine bq (N := 6) rfl ?_); refine l5 (N := 6) (cs := #[.int .u64 0, .int .u64 0]) (t := 65) ?_; intro gb125 hg w6 hbox hb; refine ax10 (bb BK123 hb) (bb BK124 hb) (af bes hb) hbox ((ge hg : w.heap.size ≤ gb125)) ((ge hg : w.heap.size ≤ gb125)) (nl hg BK123) (ng hg BK123) (nl hg BK124) (ng hg BK124) ?_; clear BK123; clear BK124; clear HB; intro BK123 BK124 HB BK125 GW125 GE125 NB123_125 NB125_123 NB124_125 NB125_124; clear hb hbox hg))
 (try simp only [Act.put, sa0, sa1, sa2])
 go_cut [] (fun wc => ∃ (kq : Nat) (x125000_2 : Int) (x125001_2 : Int) (x126000_2 : Int) (x126001_2 : Int), aa (ax.j0 kq a1 a0_0 a0_1 x126000_2 x126001_2 = some (r1, r2, r3)) ∧ aa (kq ≤ k) ∧ aa (wc.heap[gb123]? = some (.cells #[.int .u64 a0_0, .int .u64 a0_1] 65 (0, 0))) ∧ aa (wc.heap[gb124]? = some (.cells #[.int .u64 x125000_2, .int .u64 x125001_2] 65 (0, 0))) ∧ aa (wc.heap[gb125]? = some (.cells #[.int .u64 x126000_2, .int .u64 x126001_2] 65 (0, 0))) ∧ aa (Below w.heap.size w wc))
 case first =>
  have H := HC3.out; clear HC3
  by_cases c7 : a1 ≤ 0
  ·
   rw [if_pos c7] at H; have c7b0 := decide_eq_true c7; clear c7
   (first | rw [c7b0] | (simp only [jw, l8]; rw [c7b0]) | skip)
   simp only [Option.some.injEq, Prod.mk.injEq] at H; obtain ⟨rfl, rfl, rfl⟩ := H; have hnb8 := NB123_124.out; have hnc8 := NB124_123.out; have hnb9 := NB123_125.out; have hnc9 := NB125_123.out; have ⟨_, _⟩ := cf BK123 0 rfl; have ⟨_, _⟩ := cf BK123 1 rfl; have hnb11 := NB124_125.out; have hnc11 := NB125_124.out; have ⟨_, _⟩ := cf BK124 0 rfl; have ⟨_, _⟩ := cf BK124 1 rfl; go_wp2; refine bodyPost_ret (ym rfl _ _ gb124 65 #[.int .u64 a0_0, .int .u64 a0_1] (0, 0) _ rfl (bp BK124) Tryd.underlying65 rfl (by kernel_rfl)) rfl ?_; exact ⟨er, bes⟩
  ·
   rw [if_neg c7] at H; have c7b0 := decide_eq_false c7; clear c7
   (first | rw [c7b0] | (simp only [jw, l8]; rw [c7b0]) | skip)
   by_cases c13 : a1 ≥ 128
   ·
    rw [if_pos c13] at H; have c13b0 : decide (128 ≤ a1) = true := decide_eq_true c13; clear c13; have H' := aa.mk H; clear H; go_wp2; go_meet
    case rel => exact ⟨_, (0), (0), (0), (0), H', ⟨by first | omega | exact Nat.le_refl _⟩, ⟨kb BK123⟩, ⟨kb BK124⟩, ⟨kb BK125⟩, ⟨bes⟩⟩
   ·
    rw [if_neg c13] at H; have c13b0 : decide (128 ≤ a1) = false := decide_eq_false c13; clear c13
    by_cases c14 : a1 ≥ 64
    ·
     rw [if_pos c14] at H; have c14b0 : decide (64 ≤ a1) = true := decide_eq_true c14; clear c14; obtain ⟨ji15, hji15⟩ : ∃ j_ : Int, (wrap64 (a1 - 64)) = j_ := ⟨_, rfl⟩; replace H : (if 0 ≤ (ji15) then (ax.j0 k a1 a0_0 a0_1 0 (shr .u64 a0_0 (ji15))) else (none)) = some (r1, r2, r3) := by first | (rw [hji15] at H; exact H) | (simp only [hji15] at H ⊢; exact H)
     have hji15w : (IntKind.i64.wrap (a1 - 64)) = ji15 := (jw _).trans hji15
     by_cases c16 : 0 ≤ (ji15)
     rotate_left
     ·
      rw [if_neg c16] at H; exact absurd H (by simp)
     rw [if_pos c16] at H; have c16b0 := eq_true c16; have c16b1 := decide_eq_true c16; clear c16; obtain ⟨ji17, hji17⟩ : ∃ j_ : Int, (shr .u64 a0_0 (ji15)) = j_ := ⟨_, rfl⟩; replace H : (ax.j0 k a1 a0_0 a0_1 0 ji17) = some (r1, r2, r3) := by first | (rw [hji17] at H; exact H) | (simp only [hji17] at H ⊢; exact H)
     have hji17_ : (a0_0 / 2 ^ min (ji15).toNat 64) = ji17 := hji17; have hji17z : (ji15) ≤ 64 → (a0_0 / 2 ^ (ji15).toNat) = ji17 := yx hji17; have H' := aa.mk H; clear H; have hnb18 := NB123_124.out; have hnc18 := NB124_123.out; have hnb19 := NB123_125.out; have hnc19 := NB125_123.out; have ⟨_, _⟩ := cf BK123 0 rfl; have ⟨_, _⟩ := cf BK123 1 rfl; have hnb21 := NB125_124.out; have hnc21 := NB124_125.out; have ⟨_, _⟩ := cf BK125 0 rfl; have ⟨_, _⟩ := cf BK125 1 rfl; go_wp2; go_meet
     case rel => exact ⟨_, (0), (0), (0), (ji17), H', ⟨by first | omega | exact Nat.le_refl _⟩, ⟨bf BK123 NB123_125⟩, ⟨bf BK124 NB124_125⟩, ⟨bp BK125⟩, ⟨bes⟩⟩
    ·
     rw [if_neg c14] at H; have c14b0 : decide (64 ≤ a1) = false := decide_eq_false c14; clear c14
     by_cases c23 : 0 ≤ a1
     rotate_left
     ·
      rw [if_neg c23] at H; exact absurd H (by simp)
     rw [if_pos c23] at H; have c23b0 := eq_true c23; have c23b1 := decide_eq_true c23; clear c23; obtain ⟨ji24, hji24⟩ : ∃ j_ : Int, (shr .u64 a0_0 a1) = j_ := ⟨_, rfl⟩; replace H : (if 0 ≤ (wrap64 (64 - a1)) then (ax.j0 k a1 a0_0 a0_1 ji24 (Go.bits .or .u64 (shl .u64 a0_0 (wrap64 (64 - a1))) (shr .u64 a0_1 a1))) else (none)) = some (r1, r2, r3) := by first | (rw [hji24] at H; exact H) | (simp only [hji24] at H ⊢; exact H)
     have hji24_ : (a0_0 / 2 ^ min a1.toNat 64) = ji24 := hji24; have hji24z : a1 ≤ 64 → (a0_0 / 2 ^ a1.toNat) = ji24 := yx hji24; obtain ⟨ji25, hji25⟩ : ∃ j_ : Int, (wrap64 (64 - a1)) = j_ := ⟨_, rfl⟩; replace H : (if 0 ≤ (ji25) then (ax.j0 k a1 a0_0 a0_1 ji24 (Go.bits .or .u64 (shl .u64 a0_0 (ji25)) (shr .u64 a0_1 a1))) else (none)) = some (r1, r2, r3) := by first | (rw [hji25] at H; exact H) | (simp only [hji25] at H ⊢; exact H)
     have hji25w : (IntKind.i64.wrap (64 - a1)) = ji25 := (jw _).trans hji25
     by_cases c26 : 0 ≤ (ji25)
     rotate_left
     ·
      rw [if_neg c26] at H; exact absurd H (by simp)
     rw [if_pos c26] at H; have c26b0 := eq_true c26; have c26b1 := decide_eq_true c26; clear c26; obtain ⟨ji27, hji27⟩ : ∃ j_ : Int, (shl .u64 a0_0 (ji25)) = j_ := ⟨_, rfl⟩; replace H : (ax.j0 k a1 a0_0 a0_1 ji24 (Go.bits .or .u64 (ji27) (shr .u64 a0_1 a1))) = some (r1, r2, r3) := by first | (rw [hji27] at H; exact H) | (simp only [hji27] at H ⊢; exact H)
     have hji27_ : (IntKind.u64.wrap (a0_0 * 2 ^ min (ji25).toNat 64)) = ji27 := hji27; have hji27z : (ji25) ≤ 64 → (IntKind.u64.wrap (a0_0 * 2 ^ (ji25).toNat)) = ji27 := xn hji27; have c28b0 := eq_true (of_decide_eq_true (by first | (with_reducible assumption) | assumption) : 0 ≤ a1); obtain ⟨ji29, hji29⟩ : ∃ j_ : Int, (shr .u64 a0_1 a1) = j_ := ⟨_, rfl⟩; replace H : (ax.j0 k a1 a0_0 a0_1 ji24 (Go.bits .or .u64 (ji27) (ji29))) = some (r1, r2, r3) := by first | (rw [hji29] at H; exact H) | (simp only [hji29] at H ⊢; exact H)
     have hji29_ : (a0_1 / 2 ^ min a1.toNat 64) = ji29 := hji29; have hji29z : a1 ≤ 64 → (a0_1 / 2 ^ a1.toNat) = ji29 := yx hji29; have H' := aa.mk H; clear H
     try go_wp2
     refine ax4 (dz BK123.out) (dz BK124.out) (dz BK125.out) (gy HB.out) ?_; clear BK123 BK124 BK125 HB; intro BK123 BK124 BK125 HB; refine vk (n := 16) (S := fun w' => w'.cell? ⟨gb123, 0, none⟩ = some (.int .u64 a0_0) ∧ w'.cell? ⟨gb123, 1, none⟩ = some (.int .u64 a0_1)) (ds := []) #[false, false, false, false, false, false, false, false, false, false, false, false, false, false, false, false] (by kernel_rfl) rfl rfl ⟨bk BK123 0, bk BK123 1⟩ (fun hHeld => ?_); refine qa ax.tab2 ax.bits2 (fun HT_ HW_ => ?_)
     generalize w6.drew = w30 at BK123 BK124 BK125 HB hHeld ⊢
     refine pu 0 7 (lm 16 1) HT_ ?_; refine pu 2 9 (lm 16 5) HT_ ?_; refine pu 4 11 (lm 16 21) HT_ ?_; refine pu 6 13 (lm 16 85) HT_ ?_; refine pu 7 14 (lm 16 213) HT_ ?_; refine pu 9 16 (lm 16 725) HT_ ?_; refine pu 11 18 (lm 16 2773) HT_ ?_; refine ta 1 8 (lm 16 2775) HT_ HW_ hHeld ?_; refine pu 3 10 (lm 16 2783) HT_ ?_; refine ta 5 12 (lm 16 2815) HT_ HW_ hHeld ?_; refine pu 8 15 (lm 16 3071) HT_ ?_; refine ta 10 17 (lm 16 4095) HT_ HW_ hHeld ?_; refine pu 12 19 (lm 16 8191) HT_ ?_; refine pu 13 20 (lm 16 16383) HT_ ?_; refine pu 14 21 (lm 16 32767) HT_ ?_; refine on 15 none (lm 16 65535) HT_ (fun K hK => ?_); have hs31 : w30.cell? ⟨gb125, 0, none⟩ = some (.int .u64 0) := bk BK125 0; have hfs31 := jr BK125.out 0; have hns31_0 := NB123_125.out; have hns31_1 := NB124_125.out; have hms31_0 := NB125_123.out; have hms31_1 := NB125_124.out; have hs32 : w30.cell? ⟨gb125, 1, none⟩ = some (.int .u64 0) := bk BK125 1; have hfs32 := jr BK125.out 1; have hns32_0 := NB123_125.out; have hns32_1 := NB124_125.out; have hms32_0 := NB125_123.out; have hms32_1 := NB125_124.out; refine Av (w1 := ?_) (by rfl) rfl ?_ ?_; rotate_left
     ·
      go_simp
      rfl
     refine hK.out _ _ ⟨((cell_far (p := ⟨gb125, _, none⟩) NB123_125.out _).trans (((cell_far (p := ⟨gb125, _, none⟩) NB123_125.out _).trans (hHeld.1)))), ((cell_far (p := ⟨gb125, _, none⟩) NB123_125.out _).trans (((cell_far (p := ⟨gb125, _, none⟩) NB123_125.out _).trans (hHeld.2))))⟩ (fun hHeld => ?_); clear hK K; refine zg (uy HT_.out (by kernel_rfl)) ?_
     try go_wp2
     go_meet
     case rel => exact ⟨_, (0), (0), (ji24), (Go.bits .or .u64 (ji27) (ji29)), H', ⟨by first | omega | exact Nat.le_refl _⟩, ⟨bf BK123 NB123_125⟩, ⟨bf BK124 NB124_125⟩, ⟨bp BK125⟩, ⟨bes⟩⟩
 case rest =>
  clear HC3
  obtain ⟨kq, x125000_2, x125001_2, x126000_2, x126001_2, HA, HJ2, BK123, BK124, BK125, HB⟩ := hcut; cases kq with
  | zero => exact absurd HA.out (by simp [ax.j0])
  | succ kj2 =>
   have H := HA.out; clear HA; simp only [ax.j0] at H; obtain ⟨⟨t126, t127⟩, A33, H⟩ := ob H; (try dsimp -simprocs only at H)
   by_cases c34 : (!(t126 == a0_0) || (!(t127 == a0_1))) = true
   ·
    rw [if_pos c34] at H; have c34b0 : (!(t126 == a0_0) || (!(t127 == a0_1))) = true := c34; clear c34; simp only [Option.some.injEq, Prod.mk.injEq] at H; obtain ⟨rfl, rfl, rfl⟩ := H
    try go_wp2
    refine ax4 (dz BK123.out) (dz BK124.out) (dz BK125.out) (gy HB.out) ?_; clear BK123 BK124 BK125 HB; intro BK123 BK124 BK125 HB; refine vk (n := 17) (S := fun w' => w'.cell? ⟨gb125, 0, none⟩ = some (.int .u64 x126000_2) ∧ w'.cell? ⟨gb125, 1, none⟩ = some (.int .u64 x126001_2) ∧ w'.cell? ⟨gb123, 0, none⟩ = some (.int .u64 a0_0) ∧ w'.cell? ⟨gb123, 1, none⟩ = some (.int .u64 a0_1)) (ds := []) #[false, false, false, false, false, false, false, false, false, false, false, false, false, false, false, false, false] (by kernel_rfl) rfl rfl ⟨bk BK125 0, bk BK125 1, bk BK123 0, bk BK123 1⟩ (fun hHeld => ?_); refine qa ax.tab8 ax.bits8 (fun HT_ HW_ => ?_)
    generalize wc.drew = w35 at BK123 BK124 BK125 HB hHeld ⊢
    refine pu 2 40 (lm 17 4) HT_ ?_; refine ta 0 38 (lm 17 5) HT_ HW_ hHeld ?_; refine ta 1 39 (lm 17 7) HT_ HW_ hHeld ?_; refine ta 4 42 (lm 17 23) HT_ HW_ hHeld ?_; refine on 3 (some 41) (lm 17 31) HT_ (fun K hK => ?_); refine qd Tryd.func34 (by kernel_rfl) rfl #[.agg #[.int .u64 x126000_2, .int .u64 x126001_2], .int .i64 a1] (by rfl) rfl rfl ga ?_
    with_reducible refine (ic.calls x126000_2 x126001_2 a1 t126 t127 _ A33.out).mono ?_
    rintro e w36 ⟨rfl, hb⟩; refine ⟨_, rfl, ?_⟩; refine ax4 (bb BK123 hb) (bb BK124 hb) (bb BK125 hb) (af bes hb) ?_; clear BK123 BK124 BK125 HB; intro BK123 BK124 BK125 HB; refine hK.out _ _ ⟨bk BK125 0, bk BK125 1, bk BK123 0, bk BK123 1⟩ (fun hHeld => ?_); clear hK K; refine no 41 ?_; refine pu 5 43 (lm 17 63) HT_ ?_; refine pu 6 44 (lm 17 127) HT_ ?_; refine po 7 45 (lm 17 255) HT_ ?_; refine po 8 46 (lm 17 511) HT_ ?_; refine po 9 47 (lm 17 1023) HT_ ?_; refine po 10 48 (lm 17 2047) HT_ ?_; refine po 11 49 (lm 17 4095) HT_ ?_; refine po 12 50 (lm 17 8191) HT_ ?_; refine po 13 51 (lm 17 16383) HT_ ?_; refine pu 14 52 (lm 17 32767) HT_ ?_; refine on 15 none (lm 17 65535) HT_ (fun K hK => ?_); have hs37 : w36.cell? ⟨gb124, 0, none⟩ = some (.int .u64 x125000_2) := bk BK124 0; have hfs37 := jr BK124.out 0; have hns37_0 := NB123_124.out; have hns37_2 := NB125_124.out; have hms37_0 := NB124_123.out; have hms37_2 := NB124_125.out; have hs38 : w36.cell? ⟨gb124, 1, none⟩ = some (.int .u64 x125001_2) := bk BK124 1; have hfs38 := jr BK124.out 1; have hns38_0 := NB123_124.out; have hns38_2 := NB125_124.out; have hms38_0 := NB124_123.out; have hms38_2 := NB124_125.out; refine Av (w1 := ?_) (by rfl) rfl ?_ ?_; rotate_left
    ·
     go_simp
     rfl
    refine hK.out _ _ ⟨((cell_far (p := ⟨gb124, _, none⟩) NB125_124.out _).trans (((cell_far (p := ⟨gb124, _, none⟩) NB125_124.out _).trans (hHeld.1)))), ((cell_far (p := ⟨gb124, _, none⟩) NB125_124.out _).trans (((cell_far (p := ⟨gb124, _, none⟩) NB125_124.out _).trans (hHeld.2.1)))), ((cell_far (p := ⟨gb124, _, none⟩) NB123_124.out _).trans (((cell_far (p := ⟨gb124, _, none⟩) NB123_124.out _).trans (hHeld.2.2.1)))), ((cell_far (p := ⟨gb124, _, none⟩) NB123_124.out _).trans (((cell_far (p := ⟨gb124, _, none⟩) NB123_124.out _).trans (hHeld.2.2.2))))⟩ (fun hHeld => ?_); clear hK K; refine pu 16 5 (lm 17 131071) HT_ ?_; refine zg (uy HT_.out (by kernel_rfl)) ?_
    try go_wp2
    refine bodyPost_ret (ym rfl _ _ gb124 65 #[.int .u64 x126000_2, .int .u64 x126001_2] (0, 0) _ rfl (bp BK124) Tryd.underlying65 rfl (by kernel_rfl)) rfl ?_; exact ⟨er, bes⟩
   ·
    rw [if_neg c34] at H; have c34b0 : (!(t126 == a0_0) || (!(t127 == a0_1))) = false := by simpa using c34
    clear c34
    by_cases c39 : a1 ≥ 128
    ·
     rw [if_pos c39] at H; have c39b0 : decide (128 ≤ a1) = true := decide_eq_true c39; clear c39; obtain ⟨t128, A40, H⟩ := ob H; (try dsimp -simprocs only at H); simp only [Option.some.injEq, Prod.mk.injEq] at H; obtain ⟨rfl, rfl, rfl⟩ := H
     try go_wp2
     refine ax4 (dz BK123.out) (dz BK124.out) (dz BK125.out) (gy HB.out) ?_; clear BK123 BK124 BK125 HB; intro BK123 BK124 BK125 HB; refine vk (n := 17) (S := fun w' => w'.cell? ⟨gb125, 0, none⟩ = some (.int .u64 x126000_2) ∧ w'.cell? ⟨gb125, 1, none⟩ = some (.int .u64 x126001_2) ∧ w'.cell? ⟨gb123, 0, none⟩ = some (.int .u64 a0_0) ∧ w'.cell? ⟨gb123, 1, none⟩ = some (.int .u64 a0_1)) (ds := []) #[false, false, false, false, false, false, false, false, false, false, false, false, false, false, false, false, false] (by kernel_rfl) rfl rfl ⟨bk BK125 0, bk BK125 1, bk BK123 0, bk BK123 1⟩ (fun hHeld => ?_); refine qa ax.tab8 ax.bits8 (fun HT_ HW_ => ?_)
     generalize wc.drew = w41 at BK123 BK124 BK125 HB hHeld ⊢
     refine pu 2 40 (lm 17 4) HT_ ?_; refine ta 0 38 (lm 17 5) HT_ HW_ hHeld ?_; refine ta 1 39 (lm 17 7) HT_ HW_ hHeld ?_; refine ta 4 42 (lm 17 23) HT_ HW_ hHeld ?_; refine on 3 (some 41) (lm 17 31) HT_ (fun K hK => ?_); refine qd Tryd.func34 (by kernel_rfl) rfl #[.agg #[.int .u64 x126000_2, .int .u64 x126001_2], .int .i64 a1] (by rfl) rfl rfl ga ?_
     with_reducible refine (ic.calls x126000_2 x126001_2 a1 t126 t127 _ A33.out).mono ?_
     rintro e w42 ⟨rfl, hb⟩; refine ⟨_, rfl, ?_⟩; refine ax4 (bb BK123 hb) (bb BK124 hb) (bb BK125 hb) (af bes hb) ?_; clear BK123 BK124 BK125 HB; intro BK123 BK124 BK125 HB; refine hK.out _ _ ⟨bk BK125 0, bk BK125 1, bk BK123 0, bk BK123 1⟩ (fun hHeld => ?_); clear hK K; refine no 41 ?_; refine pu 5 43 (lm 17 63) HT_ ?_; refine pu 6 44 (lm 17 127) HT_ ?_; refine pu 7 45 (lm 17 255) HT_ ?_; refine pu 8 46 (lm 17 511) HT_ ?_; refine pu 9 47 (lm 17 1023) HT_ ?_; refine ta 10 48 (lm 17 2047) HT_ HW_ hHeld ?_; refine on 11 (some 49) (lm 17 4095) HT_ (fun K hK => ?_); refine qd Tryd.func53 (by kernel_rfl) rfl #[.agg #[.int .u64 a0_0, .int .u64 a0_1]] (by rfl) rfl rfl ga ?_
     with_reducible refine (lg.calls a0_0 a0_1 t128 _ A40.out).mono ?_
     rintro e w43 ⟨rfl, hb⟩; refine ⟨_, rfl, ?_⟩; refine ax4 (bb BK123 hb) (bb BK124 hb) (bb BK125 hb) (af bes hb) ?_; clear BK123 BK124 BK125 HB; intro BK123 BK124 BK125 HB; refine hK.out _ _ ⟨bk BK125 0, bk BK125 1, bk BK123 0, bk BK123 1⟩ (fun hHeld => ?_); clear hK K; refine no 49 ?_; refine pu 12 50 (lm 17 8191) HT_ ?_; refine pu 13 51 (lm 17 16383) HT_ ?_; refine pu 14 52 (lm 17 32767) HT_ ?_; refine on 15 none (lm 17 65535) HT_ (fun K hK => ?_); have hs44 : w43.cell? ⟨gb124, 0, none⟩ = some (.int .u64 x125000_2) := bk BK124 0; have hfs44 := jr BK124.out 0; have hns44_0 := NB123_124.out; have hns44_2 := NB125_124.out; have hms44_0 := NB124_123.out; have hms44_2 := NB124_125.out; have hs45 : w43.cell? ⟨gb124, 1, none⟩ = some (.int .u64 x125001_2) := bk BK124 1; have hfs45 := jr BK124.out 1; have hns45_0 := NB123_124.out; have hns45_2 := NB125_124.out; have hms45_0 := NB124_123.out; have hms45_2 := NB124_125.out; refine Av (w1 := ?_) (by rfl) rfl ?_ ?_; rotate_left
     ·
      go_simp
      rfl
     refine hK.out _ _ ⟨((cell_far (p := ⟨gb124, _, none⟩) NB125_124.out _).trans (((cell_far (p := ⟨gb124, _, none⟩) NB125_124.out _).trans (hHeld.1)))), ((cell_far (p := ⟨gb124, _, none⟩) NB125_124.out _).trans (((cell_far (p := ⟨gb124, _, none⟩) NB125_124.out _).trans (hHeld.2.1)))), ((cell_far (p := ⟨gb124, _, none⟩) NB123_124.out _).trans (((cell_far (p := ⟨gb124, _, none⟩) NB123_124.out _).trans (hHeld.2.2.1)))), ((cell_far (p := ⟨gb124, _, none⟩) NB123_124.out _).trans (((cell_far (p := ⟨gb124, _, none⟩) NB123_124.out _).trans (hHeld.2.2.2))))⟩ (fun hHeld => ?_); clear hK K; refine pu 16 5 (lm 17 131071) HT_ ?_; refine zg (uy HT_.out (by kernel_rfl)) ?_
     try go_wp2
     refine bodyPost_ret (ym rfl _ _ gb124 65 #[.int .u64 x126000_2, .int .u64 x126001_2] (0, 0) _ rfl (bp BK124) Tryd.underlying65 rfl (by kernel_rfl)) rfl ?_; exact ⟨er, bes⟩
    ·
     rw [if_neg c39] at H; have c39b0 : decide (128 ≤ a1) = false := decide_eq_false c39; clear c39; simp only [Option.some.injEq, Prod.mk.injEq] at H; obtain ⟨rfl, rfl, rfl⟩ := H
     try go_wp2
     refine ax4 (dz BK123.out) (dz BK124.out) (dz BK125.out) (gy HB.out) ?_; clear BK123 BK124 BK125 HB; intro BK123 BK124 BK125 HB; refine vk (n := 17) (S := fun w' => w'.cell? ⟨gb125, 0, none⟩ = some (.int .u64 x126000_2) ∧ w'.cell? ⟨gb125, 1, none⟩ = some (.int .u64 x126001_2) ∧ w'.cell? ⟨gb123, 0, none⟩ = some (.int .u64 a0_0) ∧ w'.cell? ⟨gb123, 1, none⟩ = some (.int .u64 a0_1)) (ds := []) #[false, false, false, false, false, false, false, false, false, false, false, false, false, false, false, false, false] (by kernel_rfl) rfl rfl ⟨bk BK125 0, bk BK125 1, bk BK123 0, bk BK123 1⟩ (fun hHeld => ?_); refine qa ax.tab8 ax.bits8 (fun HT_ HW_ => ?_)
     generalize wc.drew = w46 at BK123 BK124 BK125 HB hHeld ⊢
     refine pu 2 40 (lm 17 4) HT_ ?_; refine ta 0 38 (lm 17 5) HT_ HW_ hHeld ?_; refine ta 1 39 (lm 17 7) HT_ HW_ hHeld ?_; refine ta 4 42 (lm 17 23) HT_ HW_ hHeld ?_; refine on 3 (some 41) (lm 17 31) HT_ (fun K hK => ?_); refine qd Tryd.func34 (by kernel_rfl) rfl #[.agg #[.int .u64 x126000_2, .int .u64 x126001_2], .int .i64 a1] (by rfl) rfl rfl ga ?_
     with_reducible refine (ic.calls x126000_2 x126001_2 a1 t126 t127 _ A33.out).mono ?_
     rintro e w47 ⟨rfl, hb⟩; refine ⟨_, rfl, ?_⟩; refine ax4 (bb BK123 hb) (bb BK124 hb) (bb BK125 hb) (af bes hb) ?_; clear BK123 BK124 BK125 HB; intro BK123 BK124 BK125 HB; refine hK.out _ _ ⟨bk BK125 0, bk BK125 1, bk BK123 0, bk BK123 1⟩ (fun hHeld => ?_); clear hK K; refine no 41 ?_; refine pu 5 43 (lm 17 63) HT_ ?_; refine pu 6 44 (lm 17 127) HT_ ?_; refine pu 7 45 (lm 17 255) HT_ ?_; refine pu 8 46 (lm 17 511) HT_ ?_; refine pu 9 47 (lm 17 1023) HT_ ?_; refine po 10 48 (lm 17 2047) HT_ ?_; refine po 11 49 (lm 17 4095) HT_ ?_; refine po 12 50 (lm 17 8191) HT_ ?_; refine pu 13 51 (lm 17 16383) HT_ ?_; refine pu 14 52 (lm 17 32767) HT_ ?_; refine on 15 none (lm 17 65535) HT_ (fun K hK => ?_); have hs48 : w47.cell? ⟨gb124, 0, none⟩ = some (.int .u64 x125000_2) := bk BK124 0; have hfs48 := jr BK124.out 0; have hns48_0 := NB123_124.out; have hns48_2 := NB125_124.out; have hms48_0 := NB124_123.out; have hms48_2 := NB124_125.out; have hs49 : w47.cell? ⟨gb124, 1, none⟩ = some (.int .u64 x125001_2) := bk BK124 1; have hfs49 := jr BK124.out 1; have hns49_0 := NB123_124.out; have hns49_2 := NB125_124.out; have hms49_0 := NB124_123.out; have hms49_2 := NB124_125.out; refine Av (w1 := ?_) (by rfl) rfl ?_ ?_; rotate_left
     ·
      go_simp
      rfl
     refine hK.out _ _ ⟨((cell_far (p := ⟨gb124, _, none⟩) NB125_124.out _).trans (((cell_far (p := ⟨gb124, _, none⟩) NB125_124.out _).trans (hHeld.1)))), ((cell_far (p := ⟨gb124, _, none⟩) NB125_124.out _).trans (((cell_far (p := ⟨gb124, _, none⟩) NB125_124.out _).trans (hHeld.2.1)))), ((cell_far (p := ⟨gb124, _, none⟩) NB123_124.out _).trans (((cell_far (p := ⟨gb124, _, none⟩) NB123_124.out _).trans (hHeld.2.2.1)))), ((cell_far (p := ⟨gb124, _, none⟩) NB123_124.out _).trans (((cell_far (p := ⟨gb124, _, none⟩) NB123_124.out _).trans (hHeld.2.2.2))))⟩ (fun hHeld => ?_); clear hK K; refine pu 16 5 (lm 17 131071) HT_ ?_; refine zg (uy HT_.out (by kernel_rfl)) ?_
     try go_wp2
     refine bodyPost_ret (ym rfl _ _ gb124 65 #[.int .u64 x126000_2, .int .u64 x126001_2] (0, 0) _ rfl (bp BK124) Tryd.underlying65 rfl (by kernel_rfl)) rfl ?_; exact ⟨er, bes⟩

/-! ### qo: function 57 -/
def qo.f (k : Nat) (a0_0 : Int) (a0_1 : Int) (a1 : Int) (a2 : Bool) : Option (Bool × Bool) := if a1 > 128 then (some (false, a2)) else ((ax.f k a0_0 a0_1 (wrap64 (a1 - 1))).bind fun bt130 => (some (((Go.bits .and .u64 bt130.2.1 1) == 1), bt130.2.2)))
theorem qo.mono : ∀ a0 a1 a2 a3 k, LeO (qo.f k a0 a1 a2 a3) (qo.f (k + 1) a0 a1 a2 a3) := by
 intro a0 a1 a2 a3 k
 unfold qo.f
 repeat' with_reducible first | apply ax.mono | exact LeO.refl _ | exact LeO.none _ | refine LeO.ite ?_ ?_ | refine LeO.bind ?_ (fun _ => ?_)
set_option maxHeartbeats 8000000 in
set_option maxRecDepth 100000 in
theorem qo.calls (k : Nat) (a0_0 : Int) (a0_1 : Int) (a1 : Int) (a2 : Bool) (r1 : Bool) (r2 : Bool) (w : World) (h : qo.f k a0_0 a0_1 a1 a2 = some (r1, r2)) :
  Calls Tryd.prog 57 #[.agg #[.int .u64 a0_0, .int .u64 a0_1], .int .i64 a1, .bool a2] w fun e w' => e = .returned (.tuple #[.bool r1, .bool r2]) ∧ Below w.heap.size w w' := by
 have hu65 := Tryd.underlying65; have HB := aa.mk (Below.refl w.heap.size w); have H : (if a1 > 128 then (some (false, a2)) else ((ax.f k a0_0 a0_1 (wrap64 (a1 - 1))).bind fun bt130 => (some (((Go.bits .and .u64 bt130.2.1 1) == 1), bt130.2.2)))) = some (r1, r2) := h; clear h
 by_cases c4 : a1 > 128
 ·
  rw [if_pos c4] at H; have c4b0 : decide (128 < a1) = true := decide_eq_true c4; clear c4; simp only [Option.some.injEq, Prod.mk.injEq] at H; obtain ⟨rfl, rfl⟩ := H; go_enter Tryd.func57, Tryd.ntmps57
  go_wp2_with (first | ((with_reducible refine bq (N := 3) rfl ?_); refine l5 (N := 3) (cs := #[.int .u64 a0_0, .int .u64 a0_1]) (t := 65) ?_; intro gb129 hg w5 hbox hb; refine ax4 (af bel hb) hbox ((ge hg : w.heap.size ≤ gb129)) ((ge hg : w.heap.size ≤ gb129)) ?_; clear HB; intro HB BK129 GW129 GE129; clear hb hbox hg))
  go_ret2
  exact ⟨er, bes⟩
 ·
  rw [if_neg c4] at H; have c4b0 : decide (128 < a1) = false := decide_eq_false c4; clear c4; obtain ⟨⟨t130, t131, t132⟩, A6, H⟩ := ob H; (try dsimp -simprocs only at H); simp only [Option.some.injEq, Prod.mk.injEq] at H; obtain ⟨rfl, rfl⟩ := H; go_enter Tryd.func57, Tryd.ntmps57
  go_wp2_with (first | ((with_reducible refine bq (N := 3) rfl ?_); refine l5 (N := 3) (cs := #[.int .u64 a0_0, .int .u64 a0_1]) (t := 65) ?_; intro gb129 hg w7 hbox hb; refine ax4 (af bel hb) hbox ((ge hg : w.heap.size ≤ gb129)) ((ge hg : w.heap.size ≤ gb129)) ?_; clear HB; intro HB BK129 GW129 GE129; clear hb hbox hg; have ⟨_, _⟩ := cf BK129 0 rfl; have ⟨_, _⟩ := cf BK129 1 rfl) | ((with_reducible refine ag (f := 56) rfl ?_); refine df (some 18) rfl rfl Tryd.func56 (by kernel_rfl) rfl #[.agg #[.int .u64 a0_0, .int .u64 a0_1], .int .i64 (wrap64 (a1 - 1))] rfl ga ?_; (with_reducible refine (ax.calls k a0_0 a0_1 (wrap64 (a1 - 1)) t130 t131 t132 _ A6.out).mono ?_); rintro e w9 ⟨rfl, hb⟩; refine ⟨_, rfl, ?_⟩; refine ax2 (bb BK129 hb) (af bes hb) ?_; clear BK129; clear HB; intro BK129 HB; (try clear hb)) | ((with_reducible refine bq (N := 8) rfl ?_); refine l5 (N := 8) (cs := #[.int .u64 0, .int .u64 0]) (t := 65) ?_; intro gb133 hg w10 hbox hb; refine ax7 (bb BK129 hb) (af bes hb) hbox ((ge hg : w.heap.size ≤ gb133)) ((ge hg : w.heap.size ≤ gb133)) (nl hg BK129) (ng hg BK129) ?_; clear BK129; clear HB; intro BK129 HB BK133 GW133 GE133 NB129_133 NB133_129; clear hb hbox hg; have hnb11 := NB133_129.out; have hnc11 := NB129_133.out; have ⟨_, _⟩ := cf BK133 0 rfl; have ⟨_, _⟩ := cf BK133 1 rfl))
  go_ret2
  exact ⟨er, bes⟩

end Go.Proofs.YtnjobojkoaknpaaDoor.F
