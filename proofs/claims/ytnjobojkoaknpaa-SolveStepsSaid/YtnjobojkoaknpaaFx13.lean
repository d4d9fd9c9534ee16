-- Written by a program of this seat's session (mkprint), out of the translation.
import Derived.Test.YtnjobojkoaknpaaShort
import Derived.Test.YtnjobojkoaknpaaFx0
import Derived.Test.YtnjobojkoaknpaaFx10
namespace Go.Proofs.Ytnjobojkoaknpaa.F
open Go.RowKit Go.Proofs.YtnjobojkoaknpaaW.PrintWords Go.Proofs.YtnjobojkoaknpaaW.PrintLast Go.Proofs.YtnjobojkoaknpaaW.PrintMore
attribute [local go_sem] max2_int min2_int max_two min_two max_three min_three max_four min_four   -- for this text's walks alone
set_option linter.unusedVariables false
set_option linter.unusedSimpArgs false

/-! ### gimballaw12_made: function 7 -/
def gimballaw12_made.l0 : Nat → List Int → Int → Int → Int → Int → Int → Int → List Int → Option (Int × Int × Int × List Int)
 | 0, _, _, _, _, _, _, _, _ => none
 | k + 1, x1, x2, x14, x15, x372000, x372001, x372002, x372003 => if x15 < x14 then (if (x1.length : Int) > 0 then (if (x1.length : Int) = 0 then (none) else (if 0 ≤ (Int.tmod (wrap64 (x15 + x2)) (x1.length : Int)) then (if (Int.tmod (wrap64 (x15 + x2)) (x1.length : Int)) < (x1.length : Int) then (if 0 ≤ x15 then (if x15 < (x372003.length : Int) then (gimballaw12_made.l0 k x1 x2 x14 (wrap64 (x15 + 1)) x372000 x372001 x372002 (x372003.set (x15 : Int).toNat (rd x1 (Int.tmod (wrap64 (x15 + x2)) (x1.length : Int))))) else (none)) else (none)) else (none)) else (none))) else (gimballaw12_made.l0 k x1 x2 x14 (wrap64 (x15 + 1)) x372000 x372001 x372002 x372003)) else (some (x372000, x372001, x372002, x372003))
def gimballaw12_made.f (k : Nat) (a0 : Int) (l1 : List Int) (a2 : Int) : Option (Int × Int × Int × List Int) := (mat_New.f a0 a0).bind fun bt365 => (gimballaw12_made.l0 k l1 a2 (bt365.2.2.2.length : Int) 0 bt365.1 bt365.2.1 bt365.2.2.1 bt365.2.2.2)
theorem gimballaw12_made.mono_l : ∀ k, (∀ y0 y1 y2 y3 y4 y5 y6 y7, LeO (gimballaw12_made.l0 k y0 y1 y2 y3 y4 y5 y6 y7) (gimballaw12_made.l0 (k + 1) y0 y1 y2 y3 y4 y5 y6 y7))
 | 0 => fun _ _ _ _ _ _ _ _ r h => by simp [gimballaw12_made.l0] at h
 | k + 1 => by
  have ih0 := gimballaw12_made.mono_l k
  ·
   intro y0 y1 y2 y3 y4 y5 y6 y7
   unfold gimballaw12_made.l0
   repeat' with_reducible first | apply ih0 | exact LeO.refl _ | exact LeO.none _ | refine LeO.ite ?_ ?_ | refine LeO.bind ?_ (fun _ => ?_)
theorem gimballaw12_made.mono : ∀ a0 a1 a2 k, LeO (gimballaw12_made.f k a0 a1 a2) (gimballaw12_made.f (k + 1) a0 a1 a2) := by
 intro a0 a1 a2 k
 have ih0 := gimballaw12_made.mono_l k
 unfold gimballaw12_made.f
 repeat' with_reducible first | apply ih0 | exact LeO.refl _ | exact LeO.none _ | refine LeO.ite ?_ ?_ | refine LeO.bind ?_ (fun _ => ?_)
def gimballaw12_made.T6 : Bool × List (List Nat × List Nat) := (true, [([], []), ([0], [0]), ([], []), ([], []), ([], []), ([], []), ([4, 5], [4, 5]), ([], []), ([7], [7]), ([6, 8], [6, 8]), ([3, 9], [3, 9]), ([10], [10]), ([1, 2, 0, 1, 2, 3, 4, 5, 6, 7, 8, 9, 10, 11], [1, 2]), ([12, 11, 0, 1, 2, 3, 4, 5, 6, 7, 8, 9, 10, 11], [11, 12])])
def gimballaw12_made.B6 : List Nat := [0, 1, 0, 0, 0, 0, 48, 0, 128, 496, 1016, 2040, 4095, 8191]
theorem gimballaw12_made.tab6 : rtab .any (opsOf Try.f7 6) = gimballaw12_made.T6 := by kernel_rfl
theorem gimballaw12_made.bits6 : waitsOk gimballaw12_made.T6.2 gimballaw12_made.B6 = true := by kernel_rfl
set_option maxHeartbeats 8000000 in
set_option maxRecDepth 100000 in
theorem gimballaw12_made.calls (k : Nat) (a0 : Int) (A1 : Option Addr) (c1 : Nat) (l1 : List Int) (a2 : Int) (r1 : Int) (r2 : Int) (r3 : Int) (r4 : List Int) (w : World) (hr1 : Kd.C (Kd.int .u64) w A1 l1.length l1) (hc1 : l1.length ≤ c1) (h : gimballaw12_made.f k a0 l1 a2 = some (r1, r2, r3, r4)) :
  Calls Try.prog 7 #[.int .i64 a0, .slice A1 l1.length c1, .int .i64 a2] w fun e w' => ∃ v3_ : Value, e = .returned (.agg #[.int .i64 r1, .int .i64 r2, .int .i64 r3, v3_]) ∧ Kd.R (Kd.int .u64) 35 w' w.heap.size (fun _ => True) v3_ r4 ∧ Below w.heap.size w w' := by
 have hu25 := Try.underlying25
 have HR1 := Aside0.mk hr1
 have HC1 := Aside0.mk hc1
 clear hr1 hc1
 have HB := Aside0.mk (Below.refl w.heap.size w)
 have H : ((mat_New.f a0 a0).bind fun bt365 => (gimballaw12_made.l0 k l1 a2 (bt365.2.2.2.length : Int) 0 bt365.1 bt365.2.1 bt365.2.2.1 bt365.2.2.2)) = some (r1, r2, r3, r4) := h
 clear h
 obtain ⟨⟨t365, t366, t367, t368⟩, A40, H⟩ := Option.bind_eq_some_iff.mp H
 (try dsimp -simprocs only at H)
 have A4 := Aside0.mk A40
 clear A40
 have H' := Aside0.mk H
 clear H
 go_enter Try.func7, Try.ntmps7
 go_wp2_with (first | ((with_reducible refine gate_dst (N := 6) rfl ?_); refine gbox (N := 6) (cs := #[.int .i64 0, .int .i64 0, .int .i64 0, .slice none 0 0]) (t := 25) ?_; intro gb364 hg w5 hbox hb; refine ax4 (below_step bel hb) hbox ((ge hg : w.heap.size ≤ gb364)) ((ge hg : w.heap.size ≤ gb364)) ?_; clear HB; intro HB BK364 GW364 GE364; clear hb hbox hg) | ((with_reducible refine gate_callee (f := 17) rfl ?_); refine goesL_ (some 11) rfl rfl Try.func17 (by kernel_rfl) rfl #[.int .i64 a0, .int .i64 a0] rfl ga ?_; (with_reducible refine (mat_New.calls a0 a0 t365 t366 t367 t368 _ A4.out).mono ?_); rintro e w6 ⟨v369, rfl, ho0, hb⟩; refine ⟨_, rfl, ?_⟩; refine ax3 (Kd.R_lower ho0 (below_size bes)) (bb BK364 hb) (below_step bes hb) ?_; clear BK364; clear HB; intro HO370 BK364 HB; (try clear hb); (try clear ho0)) | ((with_reducible refine gate_dst (N := 7) rfl ?_); refine gbox (N := 7) (cs := #[.int .i64 0, .int .i64 0, .int .i64 0, .slice none 0 0]) (t := 25) ?_; intro gb371 hg w7 hbox hb; refine ax8 (Kd.R_below (kr HO370) hb) (bb BK364 hb) (below_step bes hb) hbox ((ge hg : w.heap.size ≤ gb371)) ((ge hg : w.heap.size ≤ gb371)) (nl hg BK364) (ng hg BK364) ?_; clear HO370; clear BK364; clear HB; intro HO370 BK364 HB BK371 GW371 GE371 NB364_371 NB371_364; clear hb hbox hg; have hnb8 := NB371_364.out; have hnc8 := NB364_371.out; have hcz9_0 := bc BK371 0 rfl; have hcz9_1 := bc BK371 1 rfl; have hcz9_2 := bc BK371 2 rfl; have hcz9_3 := bc BK371 3 rfl; have hfz9_0 := blk_frozen BK371.out 0; have hfz9_1 := blk_frozen BK371.out 1; have hfz9_2 := blk_frozen BK371.out 2; have hfz9_3 := blk_frozen BK371.out 3; obtain ⟨Ao10, co10, eo10⟩ := Kd.R_slice HO370.out; subst eo10))
 go_loopg [15] k (fun kq v15 w' => ∃ (x15_1 : Int) (x372003_1 : List Int) (u372003 : Value), v15 = .int .i64 x15_1 ∧ Aside0 (gimballaw12_made.l0 kq l1 a2 (t368.length : Int) x15_1 t365 t366 t367 x372003_1 = some (r1, r2, r3, r4)) ∧ Aside0 (kq ≤ k) ∧ Aside0 (Kd.R (Kd.int .u64) 35 w' w.heap.size (fun _ => True) u372003 x372003_1) ∧ Aside0 (w'.heap[gb364]? = some (.cells #[.int .i64 0, .int .i64 0, .int .i64 0, (.slice none 0 0)] 25 (0, 0))) ∧ Aside0 (w'.heap[gb371]? = some (.cells #[.int .i64 t365, .int .i64 t366, .int .i64 t367, u372003] 25 (0, 0))) ∧ Aside0 (Below w.heap.size w w'))
 case atStart => exact ⟨(0), (t368), (.slice Ao10 t368.length co10), (by first | rfl | (simp; done) | (simp [*]; done)), H', ⟨Nat.le_refl _⟩, ⟨by (with_reducible repeat (first | apply Kd.R_alloc | apply Kd.R_drewN | apply Kd.R_drew)); exact Kd.R_mono (Kd.R_far (p := ⟨gb371, 3, none⟩) (Kd.R_far (p := ⟨gb371, 2, none⟩) (Kd.R_far (p := ⟨gb371, 1, none⟩) (Kd.R_far (p := ⟨gb371, 0, none⟩) (Kd.R_types HO370.out BK371.out (by decide)) (fun _ hk => hk.2) (.int .i64 t365)) (fun _ hk => hk.2) (.int .i64 t366)) (fun _ hk => hk.2) (.int .i64 t367)) (fun _ hk => hk.2) (.slice Ao10 t368.length co10)) (fun _ hk => trivial)⟩, ⟨bf BK364 NB364_371⟩, ⟨bp BK371⟩, ⟨bes⟩⟩
 case round =>
  clear H'
  try clear c1
  try clear p2
  try clear c7
  try clear c8
  try clear hcz9_0
  try clear hcz9_1
  try clear hcz9_2
  try clear hcz9_3
  try clear hfz9_0
  try clear hfz9_1
  try clear hfz9_2
  try clear hfz9_3
  obtain ⟨x15_1, x372003_1, u372003, rfl, HA, HK1, HO_372003, BK364, BK371, HB⟩ := hrel
  cases gk with
  | zero => exact absurd HA.out (by simp [gimballaw12_made.l0])
  | succ k1 =>
   have H := HA.out
   clear HA
   simp only [gimballaw12_made.l0] at H
   by_cases c11 : x15_1 < (t368.length : Int)
   ·
    rw [if_pos c11] at H
    have c11b0 : decide (x15_1 < (t368.length : Int)) = true := decide_eq_true c11
    clear c11
    by_cases c12 : (l1.length : Int) > 0
    rotate_left
    ·
     rw [if_neg c12] at H
     have c12b0 : decide (0 < (l1.length : Int)) = false := decide_eq_false c12
     have c12b1 : decide (0 < l1.length) = false := decide_eq_false (by omega)
     clear c12
     have H' := Aside0.mk H
     clear H
     go_wp2
     go_roundg k1
     case measure => have := HK1.out; omega
     case rel => exact ⟨(wrap64 (x15_1 + 1)), (x372003_1), (u372003), (by first | rfl | (simp; done) | (simp [*]; done)), H', ⟨by have := HK1.out; omega⟩, ⟨kr HO_372003⟩, ⟨kb BK364⟩, ⟨kb BK371⟩, ⟨bes⟩⟩
    rw [if_pos c12] at H
    have c12b0 : decide (0 < (l1.length : Int)) = true := decide_eq_true c12
    have c12b1 : decide (0 < l1.length) = true := decide_eq_true (by omega)
    clear c12
    by_cases c13 : (l1.length : Int) = 0
    ·
     rw [if_pos c13] at H
     exact absurd H (by simp)
    ·
     rw [if_neg c13] at H
     have c13b0 : ((l1.length : Int) == 0) = false := beq_eq_false_iff_ne.mpr c13
     have c13b1 : ((l1.length : Int) != 0) = true := bne_iff_ne.mpr c13
     have c13b2 : ¬ (l1 = []) := fun h_ => c13 (by rw [h_]; rfl)
     obtain ⟨ji14, hji14⟩ : ∃ j_ : Int, (Int.tmod (wrap64 (x15_1 + a2)) (l1.length : Int)) = j_ := ⟨_, rfl⟩
     replace H : (if 0 ≤ (ji14) then (if (ji14) < (l1.length : Int) then (if 0 ≤ x15_1 then (if x15_1 < (x372003_1.length : Int) then (gimballaw12_made.l0 k1 l1 a2 (t368.length : Int) (wrap64 (x15_1 + 1)) t365 t366 t367 (x372003_1.set (x15_1 : Int).toNat (rd l1 (ji14)))) else (none)) else (none)) else (none)) else (none)) = some (r1, r2, r3, r4) := by first | (rw [hji14] at H; exact H) | (simp only [hji14] at H ⊢; exact H)
     by_cases c15 : 0 ≤ (ji14)
     rotate_left
     ·
      rw [if_neg c15] at H
      exact absurd H (by simp)
     rw [if_pos c15] at H
     have c15b0 : decide (0 ≤ (ji14)) = true := decide_eq_true c15
     clear c15
     by_cases c16 : (ji14) < (l1.length : Int)
     rotate_left
     ·
      rw [if_neg c16] at H
      exact absurd H (by simp)
     rw [if_pos c16] at H
     have c16b0 : decide ((ji14) < (l1.length : Int)) = true := decide_eq_true c16
     clear c16
     by_cases c17 : 0 ≤ x15_1
     rotate_left
     ·
      rw [if_neg c17] at H
      exact absurd H (by simp)
     rw [if_pos c17] at H
     have c17b0 : decide (0 ≤ x15_1) = true := decide_eq_true c17
     clear c17
     by_cases c18 : x15_1 < (x372003_1.length : Int)
     rotate_left
     ·
      rw [if_neg c18] at H
      exact absurd H (by simp)
     rw [if_pos c18] at H
     have c18b0 : decide (x15_1 < (x372003_1.length : Int)) = true := decide_eq_true c18
     clear c18
     obtain ⟨y373, hy373⟩ : ∃ y_ : List Int, y_ = (x372003_1.set (x15_1 : Int).toNat (rd l1 (ji14))) := ⟨_, rfl⟩
     replace H : (gimballaw12_made.l0 k1 l1 a2 (t368.length : Int) (wrap64 (x15_1 + 1)) t365 t366 t367 y373) = some (r1, r2, r3, r4) := by first | (rw [hy373]; with_reducible exact H) | (have H2_ := (Option.bind_some _ _).symm.trans H; rw [hy373]; with_reducible exact H2_) | (have H2_ := (Option.bind_some _ _).symm.trans H; with_reducible exact H2_) | with_reducible exact H | (rw [hy373]; exact H) | exact H
     have Ny373 := Aside0.mk hy373
     clear hy373
     have H' := Aside0.mk H
     clear H
     try go_wp2
     refine ax4 (Kd.R_drew HO_372003.out) (blk_drew BK364.out) (blk_drew BK371.out) (below_drew1 HB.out) ?_
     clear HO_372003 BK364 BK371 HB
     intro HO_372003 BK364 BK371 HB
     have p372 : 0 ≤ ((ji14) : Int) := of_decide_eq_true (by first | (with_reducible assumption) | assumption)
     have q372 : (ji14) < (l1.length : Int) := of_decide_eq_true (by first | (with_reducible assumption) | assumption)
     obtain ⟨ad372, e372, hx372_0⟩ := Kd.at_int HR1.out (ji14) p372 q372
     have hw372_0 := hx372_0
     cases e372
     replace hx372_0 := (HB.out.cell (World.block_lt_of_cell? w _ hx372_0)).trans hx372_0
     replace p372 := eq_true p372
     replace q372 := eq_true q372
     have p19 : 0 ≤ (x15_1 : Int) := of_decide_eq_true (by first | (with_reducible assumption) | assumption)
     have q19 : (x15_1 : Int) < ((x372003_1.length : Int) : Int) := of_decide_eq_true (by first | (with_reducible assumption) | assumption)
     obtain ⟨go19, co19, eo19, gb19, gl19, cl19, HG19⟩ := Kd.R_form HO_372003.out (by omega)
     (first | cases eo19 | (injection eo19 with ea_ en_ ec_; (first | subst ea_ | (injection ea_ with ea_; subst ea_)); subst ec_; clear en_))
     have GB19 := Aside0.mk gb19
     have GG19 := Aside0.mk HG19
     clear gb19 gl19 HG19
     obtain ⟨hx19_0, hf19_0⟩ := Kd.R_celln 0 HO_372003.out (x15_1 : Int) p19 q19
     replace p19 := eq_true p19
     replace q19 := eq_true q19
     have HP21 := Kd.R_putn HO_372003.out (x15_1 : Int) (rd l1 (ji14))
     rw [← Ny373.out] at HP21
     have HQ21 := Aside0.mk HP21
     clear HP21
     refine start_ (n := 14) (S := fun w' => w'.cell? ⟨gb371, 0, none⟩ = some (.int .i64 t365) ∧ w'.cell? ⟨gb371, 1, none⟩ = some (.int .i64 t366) ∧ w'.cell? ⟨gb371, 2, none⟩ = some (.int .i64 t367) ∧ w'.cell? ⟨gb371, 3, none⟩ = some (.slice (some ⟨go19, 0, none⟩) x372003_1.length co19) ∧ w'.cell? (ad372.add ((ji14)).toNat) = some (.int .u64 (rd l1 (ji14)))) (ds := [13]) #[false, false, false, false, false, false, false, false, false, false, false, false, false, false] (by kernel_rfl) rfl rfl ⟨bk BK371 0, bk BK371 1, bk BK371 2, bk BK371 3, ((HB.out.cell (World.block_lt_of_cell? w _ hw372_0)).trans hw372_0)⟩ (fun hHeld => ?_); refine with_tabW gimballaw12_made.tab6 gimballaw12_made.bits6 (fun HT_ HW_ => ?_)
     generalize wr.drew = w20 at HO_372003 BK364 BK371 HB GG19 HQ21 hf19_0 hx19_0 hx372_0 hHeld ⊢
     refine pu 0 21 (lm 14 1) HT_ ?_
     refine pu 2 23 (lm 14 5) HT_ ?_
     refine pu 3 24 (lm 14 13) HT_ ?_
     refine pu 4 25 (lm 14 29) HT_ ?_
     refine pu 5 26 (lm 14 61) HT_ ?_
     refine pu 6 27 (lm 14 125) HT_ ?_
     refine pu 7 28 (lm 14 253) HT_ ?_
     refine pu 8 29 (lm 14 509) HT_ ?_
     refine pu 9 30 (lm 14 1021) HT_ ?_
     refine pu 10 31 (lm 14 2045) HT_ ?_
     refine ta 1 22 (lm 14 2047) HT_ HW_ hHeld ?_
     refine ta 11 32 (lm 14 4095) HT_ HW_ hHeld ?_
     refine pu 12 33 (lm 14 8191) HT_ ?_
     refine last_ (i := 13) (N := none) #[true, true, true, true, true, true, true, true, true, true, true, true, true, true] rfl rfl (one_of HT_.out (by kernel_rfl)) (by decide) (fun K hK => ?_)
     refine skip_ (w1 := ?_) (by rfl) rfl ?_ ?_
     rotate_left
     ·
      go_simp
      rfl
     refine hK.out _ _ ?_
     clear hK K
     refine done_ (done_of HT_.out (by kernel_rfl)) ?_
     try go_wp2
     go_roundg k1
     case measure => have := HK1.out; omega
     case rel => exact ⟨(wrap64 (x15_1 + 1)), (y373), (.slice (some ⟨go19, 0, none⟩) x372003_1.length co19), (by first | rfl | (simp; done) | (simp [*]; done)), H', ⟨by have := HK1.out; omega⟩, ⟨kr HQ21⟩, ⟨by (with_reducible repeat (first | refine blk_drewN ?_ _ | refine blk_drew ?_ | refine blk_alloc ?_ _)); refine blk_far ?_ (by have h_ := Kd.R_ne HO_372003.out BK364.out (by decide); intro e_; exact h_ (by rw [e_]; rfl)) _; (with_reducible repeat (first | refine blk_drewN ?_ _ | refine blk_drew ?_ | refine blk_alloc ?_ _)); exact BK364.out⟩, ⟨by (with_reducible repeat (first | refine blk_drewN ?_ _ | refine blk_drew ?_ | refine blk_alloc ?_ _)); refine blk_far ?_ (by have h_ := Kd.R_ne HO_372003.out BK371.out (by decide); intro e_; exact h_ (by rw [e_]; rfl)) _; (with_reducible repeat (first | refine blk_drewN ?_ _ | refine blk_drew ?_ | refine blk_alloc ?_ _)); exact BK371.out⟩, ⟨bes⟩⟩
   ·
    rw [if_neg c11] at H
    have c11b0 : decide (x15_1 < (t368.length : Int)) = false := decide_eq_false c11
    clear c11
    simp only [Option.some.injEq, Prod.mk.injEq] at H
    obtain ⟨rfl, rfl, rfl, rfl⟩ := H
    have hnb22 := NB371_364.out
    have hnc22 := NB364_371.out
    have hcz23_0 := bc BK371 0 rfl
    have hcz23_1 := bc BK371 1 rfl
    have hcz23_2 := bc BK371 2 rfl
    have hcz23_3 := bc BK371 3 rfl
    have hfz23_0 := blk_frozen BK371.out 0
    have hfz23_1 := blk_frozen BK371.out 1
    have hfz23_2 := blk_frozen BK371.out 2
    have hfz23_3 := blk_frozen BK371.out 3
    have hcz24_0 := bc BK364 0 rfl
    have hcz24_1 := bc BK364 1 rfl
    have hcz24_2 := bc BK364 2 rfl
    have hcz24_3 := bc BK364 3 rfl
    have hfz24_0 := blk_frozen BK364.out 0
    have hfz24_1 := blk_frozen BK364.out 1
    have hfz24_2 := blk_frozen BK364.out 2
    have hfz24_3 := blk_frozen BK364.out 3
    obtain ⟨Ao25, co25, eo25⟩ := Kd.R_slice HO_372003.out
    subst eo25
    go_wp2
    refine bodyPost_ret (results_cell_row rfl _ _ gb364 25 #[.int .i64 t365, .int .i64 t366, .int .i64 t367, .slice Ao25 x372003_1.length co25] (0, 0) _ rfl (bp BK364) Try.underlying25 rfl (by kernel_rfl)) rfl ?_
    exact ⟨_, er, by (with_reducible repeat (first | apply Kd.R_alloc | apply Kd.R_drewN | apply Kd.R_drew)); exact Kd.R_mono (Kd.R_far (p := ⟨gb364, 3, none⟩) (Kd.R_far (p := ⟨gb364, 2, none⟩) (Kd.R_far (p := ⟨gb364, 1, none⟩) (Kd.R_far (p := ⟨gb364, 0, none⟩) (Kd.R_types HO_372003.out BK364.out (by decide)) (fun _ hk => hk.2) (.int .i64 t365)) (fun _ hk => hk.2) (.int .i64 t366)) (fun _ hk => hk.2) (.int .i64 t367)) (fun _ hk => hk.2) (.slice Ao25 x372003_1.length co25)) (fun _ hk => trivial), bes⟩

/-! ### gimballaw12_list: function 8 -/
def gimballaw12_list.l0 : Nat → Int → List Int → Int → List Int → Int → Option (List Int)
 | 0, _, _, _, _, _ => none
 | k + 1, x0, x1, x2, x7, x8 => if x8 < x0 then (if (x1.length : Int) > 0 then (if (x1.length : Int) = 0 then (none) else (if 0 ≤ (Int.tmod (wrap64 (x8 + x2)) (x1.length : Int)) then (if (Int.tmod (wrap64 (x8 + x2)) (x1.length : Int)) < (x1.length : Int) then (if x7.length < 17592186044416 then (gimballaw12_list.l0 k x0 x1 x2 (x7 ++ [rd x1 (Int.tmod (wrap64 (x8 + x2)) (x1.length : Int))]) (wrap64 (x8 + 1))) else (none)) else (none)) else (none))) else (if x7.length < 17592186044416 then (gimballaw12_list.l0 k x0 x1 x2 (x7 ++ [4607182418800017408]) (wrap64 (x8 + 1))) else (none))) else (some x7)
def gimballaw12_list.f (k : Nat) (a0 : Int) (l1 : List Int) (a2 : Int) : Option (List Int) := gimballaw12_list.l0 k a0 l1 a2 (([] : List Int)) 0
theorem gimballaw12_list.mono_l : ∀ k, (∀ y0 y1 y2 y3 y4, LeO (gimballaw12_list.l0 k y0 y1 y2 y3 y4) (gimballaw12_list.l0 (k + 1) y0 y1 y2 y3 y4))
 | 0 => fun _ _ _ _ _ r h => by simp [gimballaw12_list.l0] at h
 | k + 1 => by
  have ih0 := gimballaw12_list.mono_l k
  ·
   intro y0 y1 y2 y3 y4
   unfold gimballaw12_list.l0
   repeat' with_reducible first | apply ih0 | exact LeO.refl _ | exact LeO.none _ | refine LeO.ite ?_ ?_ | refine LeO.bind ?_ (fun _ => ?_)
theorem gimballaw12_list.mono : ∀ a0 a1 a2 k, LeO (gimballaw12_list.f k a0 a1 a2) (gimballaw12_list.f (k + 1) a0 a1 a2) := by
 intro a0 a1 a2 k
 have ih0 := gimballaw12_list.mono_l k
 unfold gimballaw12_list.f
 repeat' with_reducible first | apply ih0 | exact LeO.refl _ | exact LeO.none _ | refine LeO.ite ?_ ?_ | refine LeO.bind ?_ (fun _ => ?_)
set_option maxHeartbeats 8000000 in
set_option maxRecDepth 100000 in
theorem gimballaw12_list.calls (k : Nat) (a0 : Int) (A1 : Option Addr) (c1 : Nat) (l1 : List Int) (a2 : Int) (r : List Int) (w : World) (hr1 : Kd.C (Kd.int .u64) w A1 l1.length l1) (hc1 : l1.length ≤ c1) (h : gimballaw12_list.f k a0 l1 a2 = some r) :
  Calls Try.prog 8 #[.int .i64 a0, .slice A1 l1.length c1, .int .i64 a2] w fun e w' => ∃ v0_ : Value, e = .returned (v0_) ∧ Kd.R (Kd.int .u64) 35 w' w.heap.size (fun _ => True) v0_ r ∧ Below w.heap.size w w' := by
 have HR1 := Aside0.mk hr1
 have HC1 := Aside0.mk hc1
 clear hr1 hc1
 have HB := Aside0.mk (Below.refl w.heap.size w)
 have H : (gimballaw12_list.l0 k a0 l1 a2 (([] : List Int)) 0) = some r := h
 clear h
 obtain ⟨y374, hy374⟩ : ∃ y_ : List Int, y_ = (([] : List Int)) := ⟨_, rfl⟩
 replace H : (gimballaw12_list.l0 k a0 l1 a2 y374 0) = some r := by first | (rw [hy374]; with_reducible exact H) | (have H2_ := (Option.bind_some _ _).symm.trans H; rw [hy374]; with_reducible exact H2_) | (have H2_ := (Option.bind_some _ _).symm.trans H; with_reducible exact H2_) | with_reducible exact H | (rw [hy374]; exact H) | exact H
 have Ny374 := Aside0.mk hy374
 clear hy374
 have H' := Aside0.mk H
 clear H
 go_enter Try.func8, Try.ntmps8
 go_wp2_with (first | ((with_reducible refine gate_dst (N := 9) rfl ?_); refine Kd.R_lit (Kd.int .u64) _ 35 ?hg (N := 9) ?hd (xs := ([] : List Int)) (inner := []) (ok := fun _ => True) (okp := fun _ => True) ?hr ?hp (fun _ hk => hk) trivial (Below.refl _ _) (Nat.le_refl _) (by simp) ?_; (case hd => rfl); (case hg => rfl); (case hr => first | (go_simp; done) | (go_simp; rfl)); (case hp => exact (Reps.none _ _)); intro v375 w4 ho5 hb hg_ hnew_; clear hg_ hnew_; (first | rw [← Ny374.out] at ho5 | (simp only [Int.reduceToNat] at ho5; rw [← Ny374.out] at ho5)); refine ax2 (Kd.R_lower ho5 (below_size bel)) (below_step bel hb) ?_; clear HB; intro HO376 HB; clear hb ho5))
 go_loopg [7, 8] k (fun kq v7 v8 w' => ∃ (x7_1 : List Int) (x8_1 : Int), v8 = .int .i64 x8_1 ∧ Aside0 (gimballaw12_list.l0 kq a0 l1 a2 x7_1 x8_1 = some r) ∧ Aside0 (kq ≤ k) ∧ Aside0 (Kd.R (Kd.int .u64) 35 w' w.heap.size (fun _ => True) v7 x7_1) ∧ Aside0 (Below w.heap.size w w'))
 case atStart => exact ⟨(y374), (0), (by first | rfl | (simp; done) | (simp [*]; done)), H', ⟨Nat.le_refl _⟩, ⟨kr HO376⟩, ⟨bel⟩⟩
 case round =>
  clear H'
  try clear c1
  try clear p2
  obtain ⟨x7_1, x8_1, rfl, HA, HK1, HO_7, HB⟩ := hrel
  cases gk with
  | zero => exact absurd HA.out (by simp [gimballaw12_list.l0])
  | succ k1 =>
   have H := HA.out
   clear HA
   simp only [gimballaw12_list.l0] at H
   by_cases c6 : x8_1 < a0
   rotate_left
   ·
    rw [if_neg c6] at H
    have c6b0 : decide (x8_1 < a0) = false := decide_eq_false c6
    clear c6
    obtain rfl := Option.some.inj H
    go_wp2
    go_ret
    exact ⟨_, er, kr HO_7, bel⟩

   rw [if_pos c6] at H
   have c6b0 : decide (x8_1 < a0) = true := decide_eq_true c6
   clear c6
   by_cases c7 : (l1.length : Int) > 0
   ·
    rw [if_pos c7] at H
    have c7b0 : decide (0 < (l1.length : Int)) = true := decide_eq_true c7
    have c7b1 : decide (0 < l1.length) = true := decide_eq_true (by omega)
    clear c7
    by_cases c8 : (l1.length : Int) = 0
    ·
     rw [if_pos c8] at H
     exact absurd H (by simp)
    ·
     rw [if_neg c8] at H
     have c8b0 : ((l1.length : Int) == 0) = false := beq_eq_false_iff_ne.mpr c8
     have c8b1 : ((l1.length : Int) != 0) = true := bne_iff_ne.mpr c8
     have c8b2 : ¬ (l1 = []) := fun h_ => c8 (by rw [h_]; rfl)
     obtain ⟨ji9, hji9⟩ : ∃ j_ : Int, (Int.tmod (wrap64 (x8_1 + a2)) (l1.length : Int)) = j_ := ⟨_, rfl⟩
     replace H : (if 0 ≤ (ji9) then (if (ji9) < (l1.length : Int) then (if x7_1.length < 17592186044416 then (gimballaw12_list.l0 k1 a0 l1 a2 (x7_1 ++ [rd l1 (ji9)]) (wrap64 (x8_1 + 1))) else (none)) else (none)) else (none)) = some r := by first | (rw [hji9] at H; exact H) | (simp only [hji9] at H ⊢; exact H)
     by_cases c10 : 0 ≤ (ji9)
     rotate_left
     ·
      rw [if_neg c10] at H
      exact absurd H (by simp)
     rw [if_pos c10] at H
     have c10b0 : decide (0 ≤ (ji9)) = true := decide_eq_true c10
     clear c10
     by_cases c11 : (ji9) < (l1.length : Int)
     rotate_left
     ·
      rw [if_neg c11] at H
      exact absurd H (by simp)
     rw [if_pos c11] at H
     have c11b0 : decide ((ji9) < (l1.length : Int)) = true := decide_eq_true c11
     clear c11
     by_cases c12 : x7_1.length < 17592186044416
     rotate_left
     ·
      rw [if_neg c12] at H
      exact absurd H (by simp)
     rw [if_pos c12] at H
     have LMc12 := Aside0.mk c12
     clear c12
     obtain ⟨y378, hy378⟩ : ∃ y_ : List Int, y_ = (x7_1 ++ [rd l1 (ji9)]) := ⟨_, rfl⟩
     replace H : (gimballaw12_list.l0 k1 a0 l1 a2 y378 (wrap64 (x8_1 + 1))) = some r := by first | (rw [hy378]; with_reducible exact H) | (have H2_ := (Option.bind_some _ _).symm.trans H; rw [hy378]; with_reducible exact H2_) | (have H2_ := (Option.bind_some _ _).symm.trans H; with_reducible exact H2_) | with_reducible exact H | (rw [hy378]; exact H) | exact H
     have Ny378 := Aside0.mk hy378
     clear hy378
     have H' := Aside0.mk H
     clear H
     have p377 : 0 ≤ ((ji9) : Int) := of_decide_eq_true (by first | (with_reducible assumption) | assumption)
     have q377 : (ji9) < (l1.length : Int) := of_decide_eq_true (by first | (with_reducible assumption) | assumption)
     obtain ⟨ad377, e377, hx377_0⟩ := Kd.at_int HR1.out (ji9) p377 q377
     cases e377
     replace hx377_0 := (HB.out.cell (World.block_lt_of_cell? w _ hx377_0)).trans hx377_0
     replace p377 := eq_true p377
     replace q377 := eq_true q377
     go_wp2_with (first | ((with_reducible refine gate_builtin (b := .append) (xs := #[.tmp 18, .tmp 28]) rfl ?_); at_builtin; refine Kd.R_append (Kd.int .u64) (w0 := w) w.heap.size rfl (.tmp 18) (.tmp 28) 22 35 (.int .u64 0) 8 rfl Try.underlying22 info35 rfl (by decide) (by omega) u7 x7_1 (rd l1 (ji9)) [.int .u64 (rd l1 (ji9))] (fun _ => True) (fun _ => False) rfl rfl ?aP (fun _ hk => hk.elim) ?aF ?aO ?aB ?aS ?aL ?_; (case aP => exact rfl); (case aB => exact bel); (case aF => exact (fun _ _ => trivial)); (case aO => exact (kr HO_7)); (case aS => exact (below_size bel)); (case aL => have := LMc12.out; omega); intro v379 w13 ho hb hg hat; rw [← Ny378.out] at ho; refine ax2 hb ho ?_; clear HB; clear HO_7; intro HB HO380; clear ho hb hg hat))
     go_roundg k1
     case measure => have := HK1.out; omega
     case rel => exact ⟨(y378), (wrap64 (x8_1 + 1)), (by first | rfl | (simp; done) | (simp [*]; done)), H', ⟨by have := HK1.out; omega⟩, ⟨kr HO380⟩, ⟨bel⟩⟩
   ·
    rw [if_neg c7] at H
    have c7b0 : decide (0 < (l1.length : Int)) = false := decide_eq_false c7
    have c7b1 : decide (0 < l1.length) = false := decide_eq_false (by omega)
    clear c7
    by_cases c14 : x7_1.length < 17592186044416
    rotate_left
    ·
     rw [if_neg c14] at H
     exact absurd H (by simp)
    rw [if_pos c14] at H
    have LMc14 := Aside0.mk c14
    clear c14
    obtain ⟨y381, hy381⟩ : ∃ y_ : List Int, y_ = (x7_1 ++ [4607182418800017408]) := ⟨_, rfl⟩
    replace H : (gimballaw12_list.l0 k1 a0 l1 a2 y381 (wrap64 (x8_1 + 1))) = some r := by first | (rw [hy381]; with_reducible exact H) | (have H2_ := (Option.bind_some _ _).symm.trans H; rw [hy381]; with_reducible exact H2_) | (have H2_ := (Option.bind_some _ _).symm.trans H; with_reducible exact H2_) | with_reducible exact H | (rw [hy381]; exact H) | exact H
    have Ny381 := Aside0.mk hy381
    clear hy381
    have H' := Aside0.mk H
    clear H
    go_wp2_with (first | ((with_reducible refine gate_builtin (b := .append) (xs := #[.tmp 30, .tmp 31]) rfl ?_); at_builtin; refine Kd.R_append (Kd.int .u64) (w0 := w) w.heap.size rfl (.tmp 30) (.tmp 31) 22 35 (.int .u64 0) 8 rfl Try.underlying22 info35 rfl (by decide) (by omega) u7 x7_1 4607182418800017408 [.int .u64 4607182418800017408] (fun _ => True) (fun _ => False) rfl rfl ?aP (fun _ hk => hk.elim) ?aF ?aO ?aB ?aS ?aL ?_; (case aP => exact rfl); (case aB => exact bel); (case aF => exact (fun _ _ => trivial)); (case aO => exact (kr HO_7)); (case aS => exact (below_size bel)); (case aL => have := LMc14.out; omega); intro v382 w15 ho hb hg hat; rw [← Ny381.out] at ho; refine ax2 hb ho ?_; clear HB; clear HO_7; intro HB HO383; clear ho hb hg hat))
    go_roundg k1
    case measure => have := HK1.out; omega
    case rel => exact ⟨(y381), (wrap64 (x8_1 + 1)), (by first | rfl | (simp; done) | (simp [*]; done)), H', ⟨by have := HK1.out; omega⟩, ⟨kr HO383⟩, ⟨bel⟩⟩
/-! ### gimballaw12_in: function 12 -/
def gimballaw12_in.f (a0 : Int) (a1 : Int) (a2 : Bool) : Option (Bool) := if a2 = true then (if a1 > a0 then (some true) else (some false)) else (some (decide (a1 < a0)))
set_option maxHeartbeats 8000000 in
set_option maxRecDepth 100000 in
theorem gimballaw12_in.calls (a0 : Int) (a1 : Int) (a2 : Bool) (r : Bool) (w : World) (h : gimballaw12_in.f a0 a1 a2 = some r) :
  Calls Try.prog 12 #[.int .i64 a0, .int .i64 a1, .bool a2] w fun e w' => e = .returned (.bool r) ∧ Drawn0 w w' := by
 have H : (if a2 = true then (if a1 > a0 then (some true) else (some false)) else (some (decide (a1 < a0)))) = some r := h
 clear h
 by_cases c4 : a2 = true
 rotate_left
 ·
  replace c4 := Bool.eq_false_iff.mpr c4
  subst c4
  rw [if_neg (show ¬ (false = true) by decide)] at H
  obtain rfl := Option.some.inj H
  go_enter Try.func12, Try.ntmps12
  go_wp2
  go_ret
  exact ⟨by first | rfl | (simp; done) | (simp [*]; done), by repeat (first | exact Drawn0.refl _ | apply Drawn0.step)⟩

 subst c4
 rw [if_pos rfl] at H
 by_cases c5 : a1 > a0
 rotate_left
 ·
  rw [if_neg c5] at H
  have c5b0 : decide (a0 < a1) = false := decide_eq_false c5
  clear c5
  obtain rfl := Option.some.inj H
  go_enter Try.func12, Try.ntmps12
  go_wp2
  go_ret
  exact ⟨by first | rfl | (simp; done) | (simp [*]; done), by repeat (first | exact Drawn0.refl _ | apply Drawn0.step)⟩
 rw [if_pos c5] at H
 have c5b0 : decide (a0 < a1) = true := decide_eq_true c5
 clear c5
 obtain rfl := Option.some.inj H
 go_enter Try.func12, Try.ntmps12
 go_wp2
 go_ret
 exact ⟨by first | rfl | (simp; done) | (simp [*]; done), by repeat (first | exact Drawn0.refl _ | apply Drawn0.step)⟩
end Go.Proofs.Ytnjobojkoaknpaa.F
