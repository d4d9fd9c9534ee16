-- Written by a program of this seat's session (mkprint), out of the translation.
import Derived.Test.YtfogmgcpajndcaaShort
import Derived.Test.YtfogmgcpajndcaaFx0
import Derived.Test.YtfogmgcpajndcaaFx2
import Derived.Test.YtfogmgcpajndcaaFx3
import Derived.Test.YtfogmgcpajndcaaFx5
import Derived.Test.YtfogmgcpajndcaaFx7
namespace Go.Proofs.Ytfogmgcpajndcaa.F
open Go.RowKit Go.Proofs.YtfogmgcpajndcaaW.PrintWords Go.Proofs.YtfogmgcpajndcaaW.PrintLast Go.Proofs.YtfogmgcpajndcaaW.PrintMore
attribute [local go_sem] max2_int min2_int max_two min_two max_three min_three max_four min_four   -- for this text's walks alone
set_option linter.unusedVariables false
set_option linter.unusedSimpArgs false

/-! ### gimballaw11_made: function 6 -/
def gimballaw11_made.l0 : Nat → List Int → Int → Int → Int → Int → Int → Int → List Int → Option (Int × Int × Int × List Int)
 | 0, _, _, _, _, _, _, _, _ => none
 | k + 1, x2, x3, x16, x17, x287000, x287001, x287002, x287003 => if x17 < x16 then (if (x2.length : Int) > 0 then (if (x2.length : Int) = 0 then (none) else (if 0 ≤ (Int.tmod (wrap64 (x17 + x3)) (x2.length : Int)) then (if (Int.tmod (wrap64 (x17 + x3)) (x2.length : Int)) < (x2.length : Int) then (if 0 ≤ x17 then (if x17 < (x287003.length : Int) then (gimballaw11_made.l0 k x2 x3 x16 (wrap64 (x17 + 1)) x287000 x287001 x287002 (x287003.set (x17 : Int).toNat (rd x2 (Int.tmod (wrap64 (x17 + x3)) (x2.length : Int))))) else (none)) else (none)) else (none)) else (none))) else (gimballaw11_made.l0 k x2 x3 x16 (wrap64 (x17 + 1)) x287000 x287001 x287002 x287003)) else (some (x287000, x287001, x287002, x287003))
def gimballaw11_made.f (k : Nat) (a0 : Int) (a1 : Int) (l2 : List Int) (a3 : Int) : Option (Int × Int × Int × List Int) := (mat_New.f a0 a1).bind fun bt280 => (gimballaw11_made.l0 k l2 a3 (bt280.2.2.2.length : Int) 0 bt280.1 bt280.2.1 bt280.2.2.1 bt280.2.2.2)
theorem gimballaw11_made.mono_l : ∀ k, (∀ y0 y1 y2 y3 y4 y5 y6 y7, LeO (gimballaw11_made.l0 k y0 y1 y2 y3 y4 y5 y6 y7) (gimballaw11_made.l0 (k + 1) y0 y1 y2 y3 y4 y5 y6 y7))
 | 0 => fun _ _ _ _ _ _ _ _ r h => by simp [gimballaw11_made.l0] at h
 | k + 1 => by
  have ih0 := gimballaw11_made.mono_l k
  ·
   intro y0 y1 y2 y3 y4 y5 y6 y7
   unfold gimballaw11_made.l0
   repeat' with_reducible first | apply ih0 | exact LeO.refl _ | exact LeO.none _ | refine LeO.ite ?_ ?_ | refine LeO.bind ?_ (fun _ => ?_)
theorem gimballaw11_made.mono : ∀ a0 a1 a2 a3 k, LeO (gimballaw11_made.f k a0 a1 a2 a3) (gimballaw11_made.f (k + 1) a0 a1 a2 a3) := by
 intro a0 a1 a2 a3 k
 have ih0 := gimballaw11_made.mono_l k
 unfold gimballaw11_made.f
 repeat' with_reducible first | apply ih0 | exact LeO.refl _ | exact LeO.none _ | refine LeO.ite ?_ ?_ | refine LeO.bind ?_ (fun _ => ?_)
def gimballaw11_made.T6 : Bool × List (List Nat × List Nat) := (true, [([], []), ([0], [0]), ([], []), ([], []), ([], []), ([], []), ([4, 5], [4, 5]), ([], []), ([7], [7]), ([6, 8], [6, 8]), ([3, 9], [3, 9]), ([10], [10]), ([1, 2, 0, 1, 2, 3, 4, 5, 6, 7, 8, 9, 10, 11], [1, 2]), ([12, 11, 0, 1, 2, 3, 4, 5, 6, 7, 8, 9, 10, 11], [11, 12])])
def gimballaw11_made.B6 : List Nat := [0, 1, 0, 0, 0, 0, 48, 0, 128, 496, 1016, 2040, 4095, 8191]
theorem gimballaw11_made.tab6 : rtab .any (opsOf Try.f6 6) = gimballaw11_made.T6 := by kernel_rfl
theorem gimballaw11_made.bits6 : waitsOk gimballaw11_made.T6.2 gimballaw11_made.B6 = true := by kernel_rfl
set_option maxHeartbeats 8000000 in
set_option maxRecDepth 100000 in
theorem gimballaw11_made.calls (k : Nat) (a0 : Int) (a1 : Int) (A2 : Option Addr) (c2 : Nat) (l2 : List Int) (a3 : Int) (r1 : Int) (r2 : Int) (r3 : Int) (r4 : List Int) (w : World) (hr2 : Kd.C (Kd.int .u64) w A2 l2.length l2) (hc2 : l2.length ≤ c2) (h : gimballaw11_made.f k a0 a1 l2 a3 = some (r1, r2, r3, r4)) :
  Calls Try.prog 6 #[.int .i64 a0, .int .i64 a1, .slice A2 l2.length c2, .int .i64 a3] w fun e w' => ∃ v3_ : Value, e = .returned (.agg #[.int .i64 r1, .int .i64 r2, .int .i64 r3, v3_]) ∧ Kd.R (Kd.int .u64) 33 w' w.heap.size (fun _ => True) v3_ r4 ∧ Below w.heap.size w w' := by
 have hu25 := Try.underlying25
 have HR2 := Aside0.mk hr2
 have HC2 := Aside0.mk hc2
 clear hr2 hc2
 have HB := Aside0.mk (Below.refl w.heap.size w)
 have H : ((mat_New.f a0 a1).bind fun bt280 => (gimballaw11_made.l0 k l2 a3 (bt280.2.2.2.length : Int) 0 bt280.1 bt280.2.1 bt280.2.2.1 bt280.2.2.2)) = some (r1, r2, r3, r4) := h
 clear h
 obtain ⟨⟨t280, t281, t282, t283⟩, A50, H⟩ := Option.bind_eq_some_iff.mp H
 (try dsimp -simprocs only at H)
 have A5 := Aside0.mk A50
 clear A50
 have H' := Aside0.mk H
 clear H
 go_enter Try.func6, Try.ntmps6
 go_wp2_with (first | ((with_reducible refine gate_dst (N := 8) rfl ?_); refine gbox (N := 8) (cs := #[.int .i64 0, .int .i64 0, .int .i64 0, .slice none 0 0]) (t := 25) ?_; intro gb279 hg w6 hbox hb; refine ax4 (below_step bel hb) hbox ((ge hg : w.heap.size ≤ gb279)) ((ge hg : w.heap.size ≤ gb279)) ?_; clear HB; intro HB BK279 GW279 GE279; clear hb hbox hg) | ((with_reducible refine gate_callee (f := 20) rfl ?_); refine goesL_ (some 13) rfl rfl Try.func20 (by kernel_rfl) rfl #[.int .i64 a0, .int .i64 a1] rfl ga ?_; (with_reducible refine (mat_New.calls a0 a1 t280 t281 t282 t283 _ A5.out).mono ?_); rintro e w7 ⟨v284, rfl, ho0, hb⟩; refine ⟨_, rfl, ?_⟩; refine ax3 (Kd.R_lower ho0 (below_size bes)) (bb BK279 hb) (below_step bes hb) ?_; clear BK279; clear HB; intro HO285 BK279 HB; (try clear hb); (try clear ho0)) | ((with_reducible refine gate_dst (N := 9) rfl ?_); refine gbox (N := 9) (cs := #[.int .i64 0, .int .i64 0, .int .i64 0, .slice none 0 0]) (t := 25) ?_; intro gb286 hg w8 hbox hb; refine ax8 (Kd.R_below (kr HO285) hb) (bb BK279 hb) (below_step bes hb) hbox ((ge hg : w.heap.size ≤ gb286)) ((ge hg : w.heap.size ≤ gb286)) (nl hg BK279) (ng hg BK279) ?_; clear HO285; clear BK279; clear HB; intro HO285 BK279 HB BK286 GW286 GE286 NB279_286 NB286_279; clear hb hbox hg; have hnb9 := NB286_279.out; have hnc9 := NB279_286.out; have hcz10_0 := bc BK286 0 rfl; have hcz10_1 := bc BK286 1 rfl; have hcz10_2 := bc BK286 2 rfl; have hcz10_3 := bc BK286 3 rfl; have hfz10_0 := blk_frozen BK286.out 0; have hfz10_1 := blk_frozen BK286.out 1; have hfz10_2 := blk_frozen BK286.out 2; have hfz10_3 := blk_frozen BK286.out 3; obtain ⟨Ao11, co11, eo11⟩ := Kd.R_slice HO285.out; subst eo11))
 go_loopg [17] k (fun kq v17 w' => ∃ (x17_1 : Int) (x287003_1 : List Int) (u287003 : Value), v17 = .int .i64 x17_1 ∧ Aside0 (gimballaw11_made.l0 kq l2 a3 (t283.length : Int) x17_1 t280 t281 t282 x287003_1 = some (r1, r2, r3, r4)) ∧ Aside0 (kq ≤ k) ∧ Aside0 (Kd.R (Kd.int .u64) 33 w' w.heap.size (fun _ => True) u287003 x287003_1) ∧ Aside0 (w'.heap[gb279]? = some (.cells #[.int .i64 0, .int .i64 0, .int .i64 0, (.slice none 0 0)] 25 (0, 0))) ∧ Aside0 (w'.heap[gb286]? = some (.cells #[.int .i64 t280, .int .i64 t281, .int .i64 t282, u287003] 25 (0, 0))) ∧ Aside0 (Below w.heap.size w w'))
 case atStart => exact ⟨(0), (t283), (.slice Ao11 t283.length co11), (by first | rfl | (simp; done) | (simp [*]; done)), H', ⟨Nat.le_refl _⟩, ⟨by (with_reducible repeat (first | apply Kd.R_alloc | apply Kd.R_drewN | apply Kd.R_drew)); exact Kd.R_mono (Kd.R_far (p := ⟨gb286, 3, none⟩) (Kd.R_far (p := ⟨gb286, 2, none⟩) (Kd.R_far (p := ⟨gb286, 1, none⟩) (Kd.R_far (p := ⟨gb286, 0, none⟩) (Kd.R_types HO285.out BK286.out (by decide)) (fun _ hk => hk.2) (.int .i64 t280)) (fun _ hk => hk.2) (.int .i64 t281)) (fun _ hk => hk.2) (.int .i64 t282)) (fun _ hk => hk.2) (.slice Ao11 t283.length co11)) (fun _ hk => trivial)⟩, ⟨bf BK279 NB279_286⟩, ⟨bp BK286⟩, ⟨bes⟩⟩
 case round =>
  clear H'
  try clear c2
  try clear p2
  try clear c6
  try clear c9
  try clear hcz10_0
  try clear hcz10_1
  try clear hcz10_2
  try clear hcz10_3
  try clear hfz10_0
  try clear hfz10_1
  try clear hfz10_2
  try clear hfz10_3
  obtain ⟨x17_1, x287003_1, u287003, rfl, HA, HK1, HO_287003, BK279, BK286, HB⟩ := hrel
  cases gk with
  | zero => exact absurd HA.out (by simp [gimballaw11_made.l0])
  | succ k1 =>
   have H := HA.out
   clear HA
   simp only [gimballaw11_made.l0] at H
   by_cases c12 : x17_1 < (t283.length : Int)
   ·
    rw [if_pos c12] at H
    have c12b0 : decide (x17_1 < (t283.length : Int)) = true := decide_eq_true c12
    clear c12
    by_cases c13 : (l2.length : Int) > 0
    rotate_left
    ·
     rw [if_neg c13] at H
     have c13b0 : decide (0 < (l2.length : Int)) = false := decide_eq_false c13
     have c13b1 : decide (0 < l2.length) = false := decide_eq_false (by omega)
     clear c13
     have H' := Aside0.mk H
     clear H
     go_wp2
     go_roundg k1
     case measure => have := HK1.out; omega
     case rel => exact ⟨(wrap64 (x17_1 + 1)), (x287003_1), (u287003), (by first | rfl | (simp; done) | (simp [*]; done)), H', ⟨by have := HK1.out; omega⟩, ⟨kr HO_287003⟩, ⟨kb BK279⟩, ⟨kb BK286⟩, ⟨bes⟩⟩
    rw [if_pos c13] at H
    have c13b0 : decide (0 < (l2.length : Int)) = true := decide_eq_true c13
    have c13b1 : decide (0 < l2.length) = true := decide_eq_true (by omega)
    clear c13
    by_cases c14 : (l2.length : Int) = 0
    ·
     rw [if_pos c14] at H
     exact absurd H (by simp)
    ·
     rw [if_neg c14] at H
     have c14b0 : ((l2.length : Int) == 0) = false := beq_eq_false_iff_ne.mpr c14
     have c14b1 : ((l2.length : Int) != 0) = true := bne_iff_ne.mpr c14
     have c14b2 : ¬ (l2 = []) := fun h_ => c14 (by rw [h_]; rfl)
     obtain ⟨ji15, hji15⟩ : ∃ j_ : Int, (Int.tmod (wrap64 (x17_1 + a3)) (l2.length : Int)) = j_ := ⟨_, rfl⟩
     replace H : (if 0 ≤ (ji15) then (if (ji15) < (l2.length : Int) then (if 0 ≤ x17_1 then (if x17_1 < (x287003_1.length : Int) then (gimballaw11_made.l0 k1 l2 a3 (t283.length : Int) (wrap64 (x17_1 + 1)) t280 t281 t282 (x287003_1.set (x17_1 : Int).toNat (rd l2 (ji15)))) else (none)) else (none)) else (none)) else (none)) = some (r1, r2, r3, r4) := by first | (rw [hji15] at H; exact H) | (simp only [hji15] at H ⊢; exact H)
     by_cases c16 : 0 ≤ (ji15)
     rotate_left
     ·
      rw [if_neg c16] at H
      exact absurd H (by simp)
     rw [if_pos c16] at H
     have c16b0 : decide (0 ≤ (ji15)) = true := decide_eq_true c16
     clear c16
     by_cases c17 : (ji15) < (l2.length : Int)
     rotate_left
     ·
      rw [if_neg c17] at H
      exact absurd H (by simp)
     rw [if_pos c17] at H
     have c17b0 : decide ((ji15) < (l2.length : Int)) = true := decide_eq_true c17
     clear c17
     by_cases c18 : 0 ≤ x17_1
     rotate_left
     ·
      rw [if_neg c18] at H
      exact absurd H (by simp)
     rw [if_pos c18] at H
     have c18b0 : decide (0 ≤ x17_1) = true := decide_eq_true c18
     clear c18
     by_cases c19 : x17_1 < (x287003_1.length : Int)
     rotate_left
     ·
      rw [if_neg c19] at H
      exact absurd H (by simp)
     rw [if_pos c19] at H
     have c19b0 : decide (x17_1 < (x287003_1.length : Int)) = true := decide_eq_true c19
     clear c19
     obtain ⟨y288, hy288⟩ : ∃ y_ : List Int, y_ = (x287003_1.set (x17_1 : Int).toNat (rd l2 (ji15))) := ⟨_, rfl⟩
     replace H : (gimballaw11_made.l0 k1 l2 a3 (t283.length : Int) (wrap64 (x17_1 + 1)) t280 t281 t282 y288) = some (r1, r2, r3, r4) := by first | (rw [hy288]; with_reducible exact H) | (have H2_ := (Option.bind_some _ _).symm.trans H; rw [hy288]; with_reducible exact H2_) | (have H2_ := (Option.bind_some _ _).symm.trans H; with_reducible exact H2_) | with_reducible exact H | (rw [hy288]; exact H) | exact H
     have Ny288 := Aside0.mk hy288
     clear hy288
     have H' := Aside0.mk H
     clear H
     try go_wp2
     refine ax4 (Kd.R_drew HO_287003.out) (blk_drew BK279.out) (blk_drew BK286.out) (below_drew1 HB.out) ?_
     clear HO_287003 BK279 BK286 HB
     intro HO_287003 BK279 BK286 HB
     have p287 : 0 ≤ ((ji15) : Int) := of_decide_eq_true (by first | (with_reducible assumption) | assumption)
     have q287 : (ji15) < (l2.length : Int) := of_decide_eq_true (by first | (with_reducible assumption) | assumption)
     obtain ⟨ad287, e287, hx287_0⟩ := Kd.at_int HR2.out (ji15) p287 q287
     have hw287_0 := hx287_0
     cases e287
     replace hx287_0 := (HB.out.cell (World.block_lt_of_cell? w _ hx287_0)).trans hx287_0
     replace p287 := eq_true p287
     replace q287 := eq_true q287
     have p20 : 0 ≤ (x17_1 : Int) := of_decide_eq_true (by first | (with_reducible assumption) | assumption)
     have q20 : (x17_1 : Int) < ((x287003_1.length : Int) : Int) := of_decide_eq_true (by first | (with_reducible assumption) | assumption)
     obtain ⟨go20, co20, eo20, gb20, gl20, cl20, HG20⟩ := Kd.R_form HO_287003.out (by omega)
     (first | cases eo20 | (injection eo20 with ea_ en_ ec_; (first | subst ea_ | (injection ea_ with ea_; subst ea_)); subst ec_; clear en_))
     have GB20 := Aside0.mk gb20
     have GG20 := Aside0.mk HG20
     clear gb20 gl20 HG20
     obtain ⟨hx20_0, hf20_0⟩ := Kd.R_celln 0 HO_287003.out (x17_1 : Int) p20 q20
     replace p20 := eq_true p20
     replace q20 := eq_true q20
     have HP22 := Kd.R_putn HO_287003.out (x17_1 : Int) (rd l2 (ji15))
     rw [← Ny288.out] at HP22
     have HQ22 := Aside0.mk HP22
     clear HP22
     refine start_ (n := 14) (S := fun w' => w'.cell? ⟨gb286, 0, none⟩ = some (.int .i64 t280) ∧ w'.cell? ⟨gb286, 1, none⟩ = some (.int .i64 t281) ∧ w'.cell? ⟨gb286, 2, none⟩ = some (.int .i64 t282) ∧ w'.cell? ⟨gb286, 3, none⟩ = some (.slice (some ⟨go20, 0, none⟩) x287003_1.length co20) ∧ w'.cell? (ad287.add ((ji15)).toNat) = some (.int .u64 (rd l2 (ji15)))) (ds := [13]) #[false, false, false, false, false, false, false, false, false, false, false, false, false, false] (by kernel_rfl) rfl rfl ⟨bk BK286 0, bk BK286 1, bk BK286 2, bk BK286 3, ((HB.out.cell (World.block_lt_of_cell? w _ hw287_0)).trans hw287_0)⟩ (fun hHeld => ?_); refine with_tabW gimballaw11_made.tab6 gimballaw11_made.bits6 (fun HT_ HW_ => ?_)
     generalize wr.drew = w21 at HO_287003 BK279 BK286 HB GG20 HQ22 hf20_0 hx20_0 hx287_0 hHeld ⊢
     refine pu 0 23 (lm 14 1) HT_ ?_
     refine pu 2 25 (lm 14 5) HT_ ?_
     refine pu 3 26 (lm 14 13) HT_ ?_
     refine pu 4 27 (lm 14 29) HT_ ?_
     refine pu 5 28 (lm 14 61) HT_ ?_
     refine pu 6 29 (lm 14 125) HT_ ?_
     refine pu 7 30 (lm 14 253) HT_ ?_
     refine pu 8 31 (lm 14 509) HT_ ?_
     refine pu 9 32 (lm 14 1021) HT_ ?_
     refine pu 10 33 (lm 14 2045) HT_ ?_
     refine ta 1 24 (lm 14 2047) HT_ HW_ hHeld ?_
     refine ta 11 34 (lm 14 4095) HT_ HW_ hHeld ?_
     refine pu 12 35 (lm 14 8191) HT_ ?_
     refine last_ (i := 13) (N := none) #[true, true, true, true, true, true, true, true, true, true, true, true, true, true] rfl rfl (one_of HT_.out (by kernel_rfl)) (by decide) (fun K hK => ?_)
     refine skip_ (w1 := ?_) (by rfl) rfl ?_ ?_
     rotate_left
     ·
      go_simp
      rfl
     refine hK.out _ _ ?_
     clear hK K
     refine done_ (done_of HT_.out (by kernel_rfl)) ?_
     try go_wp2
     go_roundg k1
     case measure => have := HK1.out; omega
     case rel => exact ⟨(wrap64 (x17_1 + 1)), (y288), (.slice (some ⟨go20, 0, none⟩) x287003_1.length co20), (by first | rfl | (simp; done) | (simp [*]; done)), H', ⟨by have := HK1.out; omega⟩, ⟨kr HQ22⟩, ⟨by (with_reducible repeat (first | refine blk_drewN ?_ _ | refine blk_drew ?_ | refine blk_alloc ?_ _)); refine blk_far ?_ (by have h_ := Kd.R_ne HO_287003.out BK279.out (by decide); intro e_; exact h_ (by rw [e_]; rfl)) _; (with_reducible repeat (first | refine blk_drewN ?_ _ | refine blk_drew ?_ | refine blk_alloc ?_ _)); exact BK279.out⟩, ⟨by (with_reducible repeat (first | refine blk_drewN ?_ _ | refine blk_drew ?_ | refine blk_alloc ?_ _)); refine blk_far ?_ (by have h_ := Kd.R_ne HO_287003.out BK286.out (by decide); intro e_; exact h_ (by rw [e_]; rfl)) _; (with_reducible repeat (first | refine blk_drewN ?_ _ | refine blk_drew ?_ | refine blk_alloc ?_ _)); exact BK286.out⟩, ⟨bes⟩⟩
   ·
    rw [if_neg c12] at H
    have c12b0 : decide (x17_1 < (t283.length : Int)) = false := decide_eq_false c12
    clear c12
    simp only [Option.some.injEq, Prod.mk.injEq] at H
    obtain ⟨rfl, rfl, rfl, rfl⟩ := H
    have hnb23 := NB286_279.out
    have hnc23 := NB279_286.out
    have hcz24_0 := bc BK286 0 rfl
    have hcz24_1 := bc BK286 1 rfl
    have hcz24_2 := bc BK286 2 rfl
    have hcz24_3 := bc BK286 3 rfl
    have hfz24_0 := blk_frozen BK286.out 0
    have hfz24_1 := blk_frozen BK286.out 1
    have hfz24_2 := blk_frozen BK286.out 2
    have hfz24_3 := blk_frozen BK286.out 3
    have hcz25_0 := bc BK279 0 rfl
    have hcz25_1 := bc BK279 1 rfl
    have hcz25_2 := bc BK279 2 rfl
    have hcz25_3 := bc BK279 3 rfl
    have hfz25_0 := blk_frozen BK279.out 0
    have hfz25_1 := blk_frozen BK279.out 1
    have hfz25_2 := blk_frozen BK279.out 2
    have hfz25_3 := blk_frozen BK279.out 3
    obtain ⟨Ao26, co26, eo26⟩ := Kd.R_slice HO_287003.out
    subst eo26
    go_wp2
    refine bodyPost_ret (results_cell_row rfl _ _ gb279 25 #[.int .i64 t280, .int .i64 t281, .int .i64 t282, .slice Ao26 x287003_1.length co26] (0, 0) _ rfl (bp BK279) Try.underlying25 rfl (by kernel_rfl)) rfl ?_
    exact ⟨_, er, by (with_reducible repeat (first | apply Kd.R_alloc | apply Kd.R_drewN | apply Kd.R_drew)); exact Kd.R_mono (Kd.R_far (p := ⟨gb279, 3, none⟩) (Kd.R_far (p := ⟨gb279, 2, none⟩) (Kd.R_far (p := ⟨gb279, 1, none⟩) (Kd.R_far (p := ⟨gb279, 0, none⟩) (Kd.R_types HO_287003.out BK279.out (by decide)) (fun _ hk => hk.2) (.int .i64 t280)) (fun _ hk => hk.2) (.int .i64 t281)) (fun _ hk => hk.2) (.int .i64 t282)) (fun _ hk => hk.2) (.slice Ao26 x287003_1.length co26)) (fun _ hk => trivial), bes⟩

/-! ### bits_Mul64: function 49 -/
def bits_Mul64.f (a0 : Int) (a1 : Int) : Option (Int × Int) := some (IntKind.u64.wrap ((IntKind.u64.wrap ((IntKind.u64.wrap ((a0 / 4294967296) * (a1 / 4294967296))) + ((IntKind.u64.wrap ((IntKind.u64.wrap ((a0 / 4294967296) * (Go.bits .and .u64 a1 4294967295))) + ((IntKind.u64.wrap ((Go.bits .and .u64 a0 4294967295) * (Go.bits .and .u64 a1 4294967295))) / 4294967296))) / 4294967296))) + ((IntKind.u64.wrap ((Go.bits .and .u64 (IntKind.u64.wrap ((IntKind.u64.wrap ((a0 / 4294967296) * (Go.bits .and .u64 a1 4294967295))) + ((IntKind.u64.wrap ((Go.bits .and .u64 a0 4294967295) * (Go.bits .and .u64 a1 4294967295))) / 4294967296))) 4294967295) + (IntKind.u64.wrap ((Go.bits .and .u64 a0 4294967295) * (a1 / 4294967296))))) / 4294967296)), IntKind.u64.wrap (a0 * a1))
set_option maxHeartbeats 8000000 in
set_option maxRecDepth 100000 in
theorem bits_Mul64.calls (a0 : Int) (a1 : Int) (r1 : Int) (r2 : Int) (w : World) (h : bits_Mul64.f a0 a1 = some (r1, r2)) :
  Calls Try.prog 49 #[.int .u64 a0, .int .u64 a1] w fun e w' => e = .returned (.tuple #[.int .u64 r1, .int .u64 r2]) ∧ Drawn0 w w' := by
 have H : (some (IntKind.u64.wrap ((IntKind.u64.wrap ((IntKind.u64.wrap ((a0 / 4294967296) * (a1 / 4294967296))) + ((IntKind.u64.wrap ((IntKind.u64.wrap ((a0 / 4294967296) * (Go.bits .and .u64 a1 4294967295))) + ((IntKind.u64.wrap ((Go.bits .and .u64 a0 4294967295) * (Go.bits .and .u64 a1 4294967295))) / 4294967296))) / 4294967296))) + ((IntKind.u64.wrap ((Go.bits .and .u64 (IntKind.u64.wrap ((IntKind.u64.wrap ((a0 / 4294967296) * (Go.bits .and .u64 a1 4294967295))) + ((IntKind.u64.wrap ((Go.bits .and .u64 a0 4294967295) * (Go.bits .and .u64 a1 4294967295))) / 4294967296))) 4294967295) + (IntKind.u64.wrap ((Go.bits .and .u64 a0 4294967295) * (a1 / 4294967296))))) / 4294967296)), IntKind.u64.wrap (a0 * a1))) = some (r1, r2) := h
 clear h
 simp only [Option.some.injEq, Prod.mk.injEq] at H
 obtain ⟨rfl, rfl⟩ := H
 go_enter Try.func49, Try.ntmps49
 go_wp2
 go_ret2
 exact ⟨by first | rfl | (simp; done) | (simp [*]; done), by repeat (first | exact Drawn0.refl _ | apply Drawn0.step)⟩

/-! ### wide_Mul: function 39 -/
def wide_Mul.f (a0 : Int) (a1 : Int) : Option (Int × Int) := (bits_Mul64.f a0 a1).bind fun bt290 => (some (bt290.1, bt290.2))
set_option maxHeartbeats 8000000 in
set_option maxRecDepth 100000 in
theorem wide_Mul.calls (a0 : Int) (a1 : Int) (r1 : Int) (r2 : Int) (w : World) (h : wide_Mul.f a0 a1 = some (r1, r2)) :
  Calls Try.prog 39 #[.int .u64 a0, .int .u64 a1] w fun e w' => e = .returned (.agg #[.int .u64 r1, .int .u64 r2]) ∧ Below w.heap.size w w' := by
 have hu68 := Try.underlying68
 have HB := Aside0.mk (Below.refl w.heap.size w)
 have H : ((bits_Mul64.f a0 a1).bind fun bt290 => (some (bt290.1, bt290.2))) = some (r1, r2) := h
 clear h
 obtain ⟨⟨t290, t291⟩, A30, H⟩ := Option.bind_eq_some_iff.mp H
 (try dsimp -simprocs only at H)
 have A3 := Aside0.mk A30
 clear A30
 simp only [Option.some.injEq, Prod.mk.injEq] at H
 obtain ⟨rfl, rfl⟩ := H
 go_enter Try.func39, Try.ntmps39
 go_wp2_with (first | ((with_reducible refine gate_dst (N := 4) rfl ?_); refine gbox (N := 4) (cs := #[.int .u64 0, .int .u64 0]) (t := 68) ?_; intro gb289 hg w4 hbox hb; refine ax4 (below_step bel hb) hbox ((ge hg : w.heap.size ≤ gb289)) ((ge hg : w.heap.size ≤ gb289)) ?_; clear HB; intro HB BK289 GW289 GE289; clear hb hbox hg) | ((with_reducible refine gate_callee (f := 49) rfl ?_); refine goesL_ (some 10) rfl rfl Try.func49 (by kernel_rfl) rfl #[.int .u64 a0, .int .u64 a1] rfl ga ?_; (with_reducible refine (bits_Mul64.calls a0 a1 t290 t291 _ A3.out).mono ?_); rintro e w' ⟨rfl, ⟨nd, rfl⟩⟩; refine ⟨_, rfl, ?_⟩; (try (rw [drewN_self w4]; generalize hq_ : World.drewN w4 _ = w4; have n0_ : Aside0 (w4.heap[gb289]? = some (.cells #[.int .u64 0, .int .u64 0] 68 (0, 0))) := ⟨by rw [← hq_]; exact (kb BK289)⟩; have n1_ : Aside0 (Below w.heap.size w w4) := ⟨by rw [← hq_]; exact bes⟩; clear BK289 HB hq_; have BK289 := n0_; have HB := n1_; clear n0_ n1_)); have hcz5_0 := bc BK289 0 rfl; have hcz5_1 := bc BK289 1 rfl; have hfz5_0 := blk_frozen BK289.out 0; have hfz5_1 := blk_frozen BK289.out 1))
 refine bodyPost_ret (results_cell_row rfl _ _ gb289 68 #[.int .u64 t290, .int .u64 t291] (0, 0) _ rfl (bp BK289) Try.underlying68 rfl (by kernel_rfl)) rfl ?_
 exact ⟨er, bes⟩

/-! ### soft_Mul: function 29 -/
def soft_Mul.j0 : Nat → Int → Int → Bool → Int → Int → Bool → Option (Int × Int)
 | 0, _, _, _, _, _, _ => none
 | k + 1, x0, x1, x9, x10, x11, x36 => if x36 = true then (some (9221120237041090560, 16)) else (if x10 = 4 then ((word_Make.f x9 2047 0).bind fun t302 => (some (t302, 0))) else (if x11 = 4 then ((word_Make.f x9 2047 0).bind fun t303 => (some (t303, 0))) else ((word_Parts.f k x0).bind fun bt304 => ((word_Parts.f k x1).bind fun bt306 => ((wide_Mul.f bt304.1 bt306.1).bind fun bt308 => ((round_Round.f k x9 bt308.1 bt308.2 (wrap64 (bt304.2 + bt306.2)) false).bind fun bt310 => (some (bt310.1, bt310.2))))))))
def soft_Mul.f (k : Nat) (a0 : Int) (a1 : Int) : Option (Int × Int) := (soft_nan.f k (([a0, a1] : List Int))).bind fun bt295 => (if bt295.2.2 = true then (some (bt295.1, bt295.2.1)) else ((word_Neg.f a0).bind fun t298 => ((word_Neg.f a1).bind fun t299 => ((word_Kind.f k a0).bind fun t300 => ((word_Kind.f k a1).bind fun t301 => (if t300 = 4 then (if t301 = 1 then (soft_Mul.j0 k a0 a1 (t298 != t299) t300 t301 true) else (if t300 = 1 then (soft_Mul.j0 k a0 a1 (t298 != t299) t300 t301 (t301 == 4)) else (soft_Mul.j0 k a0 a1 (t298 != t299) t300 t301 false))) else (if t300 = 1 then (soft_Mul.j0 k a0 a1 (t298 != t299) t300 t301 (t301 == 4)) else (soft_Mul.j0 k a0 a1 (t298 != t299) t300 t301 false))))))))
theorem soft_Mul.mono_l : ∀ k, (∀ y0 y1 y2 y3 y4 y5, LeO (soft_Mul.j0 k y0 y1 y2 y3 y4 y5) (soft_Mul.j0 (k + 1) y0 y1 y2 y3 y4 y5))
 | 0 => fun _ _ _ _ _ _ r h => by simp [soft_Mul.j0] at h
 | k + 1 => by
  have ih0 := soft_Mul.mono_l k
  ·
   intro y0 y1 y2 y3 y4 y5
   unfold soft_Mul.j0
   repeat' with_reducible first | apply ih0 | apply round_Round.mono | apply soft_nan.mono | apply word_Kind.mono | apply word_Parts.mono | exact LeO.refl _ | exact LeO.none _ | refine LeO.ite ?_ ?_ | refine LeO.bind ?_ (fun _ => ?_)
theorem soft_Mul.mono : ∀ a0 a1 k, LeO (soft_Mul.f k a0 a1) (soft_Mul.f (k + 1) a0 a1) := by
 intro a0 a1 k
 have ih0 := soft_Mul.mono_l k
 unfold soft_Mul.f
 repeat' with_reducible first | apply ih0 | apply round_Round.mono | apply soft_nan.mono | apply word_Kind.mono | apply word_Parts.mono | exact LeO.refl _ | exact LeO.none _ | refine LeO.ite ?_ ?_ | refine LeO.bind ?_ (fun _ => ?_)
set_option maxHeartbeats 8000000 in
set_option maxRecDepth 100000 in
theorem soft_Mul.calls (k : Nat) (a0 : Int) (a1 : Int) (r1 : Int) (r2 : Int) (w : World) (h : soft_Mul.f k a0 a1 = some (r1, r2)) :
  Calls Try.prog 29 #[.int .u64 a0, .int .u64 a1] w fun e w' => e = .returned (.tuple #[.int .u64 r1, .int .u8 r2]) ∧ Below w.heap.size w w' := by
 have HB := Aside0.mk (Below.refl w.heap.size w)
 have H : ((soft_nan.f k (([a0, a1] : List Int))).bind fun bt295 => (if bt295.2.2 = true then (some (bt295.1, bt295.2.1)) else ((word_Neg.f a0).bind fun t298 => ((word_Neg.f a1).bind fun t299 => ((word_Kind.f k a0).bind fun t300 => ((word_Kind.f k a1).bind fun t301 => (if t300 = 4 then (if t301 = 1 then (soft_Mul.j0 k a0 a1 (t298 != t299) t300 t301 true) else (if t300 = 1 then (soft_Mul.j0 k a0 a1 (t298 != t299) t300 t301 (t301 == 4)) else (soft_Mul.j0 k a0 a1 (t298 != t299) t300 t301 false))) else (if t300 = 1 then (soft_Mul.j0 k a0 a1 (t298 != t299) t300 t301 (t301 == 4)) else (soft_Mul.j0 k a0 a1 (t298 != t299) t300 t301 false))))))))) = some (r1, r2) := h
 clear h
 obtain ⟨y292, hy292⟩ : ∃ y_ : List Int, y_ = (([a0, a1] : List Int)) := ⟨_, rfl⟩
 replace H : ((soft_nan.f k y292).bind fun bt295 => (if bt295.2.2 = true then (some (bt295.1, bt295.2.1)) else ((word_Neg.f a0).bind fun t298 => ((word_Neg.f a1).bind fun t299 => ((word_Kind.f k a0).bind fun t300 => ((word_Kind.f k a1).bind fun t301 => (if t300 = 4 then (if t301 = 1 then (soft_Mul.j0 k a0 a1 (t298 != t299) t300 t301 true) else (if t300 = 1 then (soft_Mul.j0 k a0 a1 (t298 != t299) t300 t301 (t301 == 4)) else (soft_Mul.j0 k a0 a1 (t298 != t299) t300 t301 false))) else (if t300 = 1 then (soft_Mul.j0 k a0 a1 (t298 != t299) t300 t301 (t301 == 4)) else (soft_Mul.j0 k a0 a1 (t298 != t299) t300 t301 false))))))))) = some (r1, r2) := by first | (rw [hy292]; with_reducible exact H) | (have H2_ := (Option.bind_some _ _).symm.trans H; rw [hy292]; with_reducible exact H2_) | (have H2_ := (Option.bind_some _ _).symm.trans H; with_reducible exact H2_) | with_reducible exact H | (rw [hy292]; exact H) | exact H
 have Ny292 := Aside0.mk hy292
 clear hy292
 obtain ⟨⟨t295, t296, t297⟩, A30, H⟩ := Option.bind_eq_some_iff.mp H
 (try dsimp -simprocs only at H)
 have A3 := Aside0.mk A30
 clear A30
 by_cases c4 : t297 = true
 ·
  subst c4
  rw [if_pos rfl] at H
  simp only [Option.some.injEq, Prod.mk.injEq] at H
  obtain ⟨rfl, rfl⟩ := H
  go_enter Try.func29, Try.ntmps29
  go_wp2_with (first | ((with_reducible refine gate_dst (N := 19) rfl ?_); refine Kd.R_lit (Kd.int .u64) _ 33 ?hg (N := 19) ?hd (xs := ([a0, a1] : List Int)) (inner := [.int .u64 a0, .int .u64 a1]) (ok := fun _ => True) (okp := fun _ => True) ?hr ?hp (fun _ hk => hk) trivial (Below.refl _ _) (Nat.le_refl _) (by simp) ?_; (case hd => rfl); (case hg => rfl); (case hr => first | (go_simp; done) | (go_simp; rfl)); (case hp => exact (Reps.one (show Kd.M (Kd.int .u64) _ _ _ a0 [.int .u64 a0] from rfl) (Reps.one (show Kd.M (Kd.int .u64) _ _ _ a1 [.int .u64 a1] from rfl) (Reps.none _ _)))); intro v293 w5 ho6 hb hg_ hnew_; clear hg_ hnew_; (first | rw [← Ny292.out] at ho6 | (simp only [Int.reduceToNat] at ho6; rw [← Ny292.out] at ho6)); refine ax2 (Kd.R_lower ho6 (below_size bel)) (below_step bel hb) ?_; clear HB; intro HO294 HB; clear hb ho6; obtain ⟨Ao7, co7, eo7⟩ := Kd.R_slice HO294.out; subst eo7) | ((with_reducible refine gate_callee (f := 33) rfl ?_); refine goesL_ (some 20) rfl rfl Try.func33 (by kernel_rfl) rfl #[.slice Ao7 y292.length co7] rfl ga ?_; (with_reducible refine (soft_nan.calls k _ _ y292 t295 t296 true _ ?side1 ?side2 A3.out).mono ?_); (case side1 => exact ks HO294); (case side2 => exact (Kd.R_reads' HO294.out).2.1); rintro e w' ⟨rfl, ⟨nd, rfl⟩⟩; refine ⟨_, rfl, ?_⟩))
  go_ret2
  exact ⟨er, bel⟩
 ·
  replace c4 := Bool.eq_false_iff.mpr c4
  subst c4
  rw [if_neg (show ¬ (false = true) by decide)] at H
  obtain ⟨t298, A80, H⟩ := Option.bind_eq_some_iff.mp H
  (try dsimp -simprocs only at H)
  have A8 := Aside0.mk A80
  clear A80
  obtain ⟨t299, A90, H⟩ := Option.bind_eq_some_iff.mp H
  (try dsimp -simprocs only at H)
  have A9 := Aside0.mk A90
  clear A90
  obtain ⟨t300, A100, H⟩ := Option.bind_eq_some_iff.mp H
  (try dsimp -simprocs only at H)
  have A10 := Aside0.mk A100
  clear A100
  obtain ⟨t301, A110, H⟩ := Option.bind_eq_some_iff.mp H
  (try dsimp -simprocs only at H)
  have A11 := Aside0.mk A110
  clear A110
  have HC12 := Aside0.mk H
  clear H
  go_enter Try.func29, Try.ntmps29
  go_upto_region 6 with (first | ((with_reducible refine gate_dst (N := 19) rfl ?_); refine Kd.R_lit (Kd.int .u64) _ 33 ?hg (N := 19) ?hd (xs := ([a0, a1] : List Int)) (inner := [.int .u64 a0, .int .u64 a1]) (ok := fun _ => True) (okp := fun _ => True) ?hr ?hp (fun _ hk => hk) trivial (Below.refl _ _) (Nat.le_refl _) (by simp) ?_; (case hd => rfl); (case hg => rfl); (case hr => first | (go_simp; done) | (go_simp; rfl)); (case hp => exact (Reps.one (show Kd.M (Kd.int .u64) _ _ _ a0 [.int .u64 a0] from rfl) (Reps.one (show Kd.M (Kd.int .u64) _ _ _ a1 [.int .u64 a1] from rfl) (Reps.none _ _)))); intro v293 w13 ho14 hb hg_ hnew_; clear hg_ hnew_; (first | rw [← Ny292.out] at ho14 | (simp only [Int.reduceToNat] at ho14; rw [← Ny292.out] at ho14)); refine ax2 (Kd.R_lower ho14 (below_size bel)) (below_step bel hb) ?_; clear HB; intro HO294 HB; clear hb ho14; obtain ⟨Ao15, co15, eo15⟩ := Kd.R_slice HO294.out; subst eo15) | ((with_reducible refine gate_callee (f := 33) rfl ?_); refine goesL_ (some 20) rfl rfl Try.func33 (by kernel_rfl) rfl #[.slice Ao15 y292.length co15] rfl ga ?_; (with_reducible refine (soft_nan.calls k _ _ y292 t295 t296 false _ ?side1 ?side2 A3.out).mono ?_); (case side1 => exact ks HO294); (case side2 => exact (Kd.R_reads' HO294.out).2.1); rintro e w' ⟨rfl, ⟨nd, rfl⟩⟩; refine ⟨_, rfl, ?_⟩) | ((with_reducible refine gate_callee (f := 34) rfl ?_); refine goesL_ (some 28) rfl rfl Try.func34 (by kernel_rfl) rfl #[.int .u64 a0] rfl ga ?_; (with_reducible refine (word_Neg.calls a0 t298 _ A8.out).mono ?_); rintro e w' ⟨rfl, ⟨nd, rfl⟩⟩; refine ⟨_, rfl, ?_⟩) | ((with_reducible refine gate_callee (f := 34) rfl ?_); refine goesL_ (some 30) rfl rfl Try.func34 (by kernel_rfl) rfl #[.int .u64 a1] rfl ga ?_; (with_reducible refine (word_Neg.calls a1 t299 _ A9.out).mono ?_); rintro e w' ⟨rfl, ⟨nd, rfl⟩⟩; refine ⟨_, rfl, ?_⟩) | ((with_reducible refine gate_callee (f := 35) rfl ?_); refine goesL_ (some 33) rfl rfl Try.func35 (by kernel_rfl) rfl #[.int .u64 a0] rfl ga ?_; (with_reducible refine (word_Kind.calls k a0 t300 _ A10.out).mono ?_); rintro e w' ⟨rfl, ⟨nd, rfl⟩⟩; refine ⟨_, rfl, ?_⟩) | ((with_reducible refine gate_callee (f := 35) rfl ?_); refine goesL_ (some 35) rfl rfl Try.func35 (by kernel_rfl) rfl #[.int .u64 a1] rfl ga ?_; (with_reducible refine (word_Kind.calls k a1 t301 _ A11.out).mono ?_); rintro e w' ⟨rfl, ⟨nd, rfl⟩⟩; refine ⟨_, rfl, ?_⟩))
  (try simp only [Act.put, sa0, sa1, sa2])
  go_cut [9, 36] (fun v9 v36 wc => ∃ (kq : Nat) (x9_11 : Bool) (x36_11 : Bool), v9 = .bool x9_11 ∧ v36 = .bool x36_11 ∧ Aside0 (soft_Mul.j0 kq a0 a1 x9_11 t300 t301 x36_11 = some (r1, r2)) ∧ Aside0 (kq ≤ k) ∧ Aside0 (Below w.heap.size w wc))
  case first =>
   have H := HC12.out
   clear HC12
   by_cases c16 : t300 = 4
   ·
    rw [if_pos c16] at H
    have c16b0 : (t300 == 4) = true := beq_iff_eq.mpr c16
    have c16b1 : (t300 != 4) = false := bne_eq_false_iff_eq.mpr c16
    clear c16
    (first | rw [c16b0] | (simp only [i64_w, i32_w]; rw [c16b0]) | skip)
    by_cases c17 : t301 = 1
    ·
     rw [if_pos c17] at H
     have c17b0 : (t301 == 1) = true := beq_iff_eq.mpr c17
     have c17b1 : (t301 != 1) = false := bne_eq_false_iff_eq.mpr c17
     clear c17
     have H' := Aside0.mk H
     clear H
     go_wp2
     go_meet
     case rel => exact ⟨_, ((t298 != t299)), (true), (by first | rfl | (simp; done) | (simp [*]; done)), (by first | rfl | (simp; done) | (simp [*]; done)), H', ⟨by first | omega | exact Nat.le_refl _⟩, ⟨bel⟩⟩
    ·
     rw [if_neg c17] at H
     have c17b0 : (t301 == 1) = false := beq_eq_false_iff_ne.mpr c17
     have c17b1 : (t301 != 1) = true := bne_iff_ne.mpr c17
     by_cases c18 : t300 = 1
     rotate_left
     ·
      rw [if_neg c18] at H
      have c18b0 : (t300 == 1) = false := beq_eq_false_iff_ne.mpr c18
      have c18b1 : (t300 != 1) = true := bne_iff_ne.mpr c18
      have H' := Aside0.mk H
      clear H
      go_wp2
      go_meet
      case rel => exact ⟨_, ((t298 != t299)), (false), (by first | rfl | (simp; done) | (simp [*]; done)), (by first | rfl | (simp; done) | (simp [*]; done)), H', ⟨by first | omega | exact Nat.le_refl _⟩, ⟨bel⟩⟩
     rw [if_pos c18] at H
     have c18b0 : (t300 == 1) = true := beq_iff_eq.mpr c18
     have c18b1 : (t300 != 1) = false := bne_eq_false_iff_eq.mpr c18
     clear c18
     have H' := Aside0.mk H
     clear H
     go_wp2
     go_meet
     case rel => exact ⟨_, ((t298 != t299)), ((t301 == 4)), (by first | rfl | (simp; done) | (simp [*]; done)), (by first | rfl | (simp; done) | (simp [*]; done)), H', ⟨by first | omega | exact Nat.le_refl _⟩, ⟨bel⟩⟩
   ·
    rw [if_neg c16] at H
    have c16b0 : (t300 == 4) = false := beq_eq_false_iff_ne.mpr c16
    have c16b1 : (t300 != 4) = true := bne_iff_ne.mpr c16
    (first | rw [c16b0] | (simp only [i64_w, i32_w]; rw [c16b0]) | skip)
    by_cases c19 : t300 = 1
    rotate_left
    ·
     rw [if_neg c19] at H
     have c19b0 : (t300 == 1) = false := beq_eq_false_iff_ne.mpr c19
     have c19b1 : (t300 != 1) = true := bne_iff_ne.mpr c19
     have H' := Aside0.mk H
     clear H
     go_wp2
     go_meet
     case rel => exact ⟨_, ((t298 != t299)), (false), (by first | rfl | (simp; done) | (simp [*]; done)), (by first | rfl | (simp; done) | (simp [*]; done)), H', ⟨by first | omega | exact Nat.le_refl _⟩, ⟨bel⟩⟩
    rw [if_pos c19] at H
    have c19b0 : (t300 == 1) = true := beq_iff_eq.mpr c19
    have c19b1 : (t300 != 1) = false := bne_eq_false_iff_eq.mpr c19
    clear c19
    have H' := Aside0.mk H
    clear H
    go_wp2
    go_meet
    case rel => exact ⟨_, ((t298 != t299)), ((t301 == 4)), (by first | rfl | (simp; done) | (simp [*]; done)), (by first | rfl | (simp; done) | (simp [*]; done)), H', ⟨by first | omega | exact Nat.le_refl _⟩, ⟨bel⟩⟩
  case rest =>
   clear HC12
   try clear c1
   try clear c2
   try clear p2
   try clear c3
   try clear c4
   try clear c16
   try clear c16b0
   try clear c16b1
   try clear c17
   try clear c17b0
   try clear c17b1
   try clear c18
   try clear c18b0
   try clear c18b1
   try clear c19
   try clear c19b0
   try clear c19b1
   obtain ⟨kq, x9_11, x36_11, rfl, rfl, HA, HJ11, HB⟩ := hcut
   cases kq with
   | zero => exact absurd HA.out (by simp [soft_Mul.j0])
   | succ kj11 =>
    have H := HA.out
    clear HA
    simp only [soft_Mul.j0] at H
    by_cases c20 : x36_11 = true
    ·
     subst c20
     rw [if_pos rfl] at H
     simp only [Option.some.injEq, Prod.mk.injEq] at H
     obtain ⟨rfl, rfl⟩ := H
     go_wp2
     go_ret2
     exact ⟨er, bel⟩
    ·
     replace c20 := Bool.eq_false_iff.mpr c20
     subst c20
     rw [if_neg (show ¬ (false = true) by decide)] at H
     by_cases c21 : t300 = 4
     ·
      rw [if_pos c21] at H
      have c21b0 : (t300 == 4) = true := beq_iff_eq.mpr c21
      have c21b1 : (t300 != 4) = false := bne_eq_false_iff_eq.mpr c21
      clear c21
      obtain ⟨t302, A220, H⟩ := Option.bind_eq_some_iff.mp H
      (try dsimp -simprocs only at H)
      have A22 := Aside0.mk A220
      clear A220
      simp only [Option.some.injEq, Prod.mk.injEq] at H
      obtain ⟨rfl, rfl⟩ := H
      go_wp2_with (first | ((with_reducible refine gate_callee (f := 36) rfl ?_); refine goesL_ (some 59) rfl rfl Try.func36 (by kernel_rfl) rfl #[.bool x9_11, .int .i64 2047, .int .u64 0] rfl ga ?_; (with_reducible refine (word_Make.calls x9_11 2047 0 t302 _ A22.out).mono ?_); rintro e w' ⟨rfl, ⟨nd, rfl⟩⟩; refine ⟨_, rfl, ?_⟩))
      go_ret2
      exact ⟨er, bel⟩
     ·
      rw [if_neg c21] at H
      have c21b0 : (t300 == 4) = false := beq_eq_false_iff_ne.mpr c21
      have c21b1 : (t300 != 4) = true := bne_iff_ne.mpr c21
      by_cases c23 : t301 = 4
      ·
       rw [if_pos c23] at H
       have c23b0 : (t301 == 4) = true := beq_iff_eq.mpr c23
       have c23b1 : (t301 != 4) = false := bne_eq_false_iff_eq.mpr c23
       clear c23
       obtain ⟨t303, A240, H⟩ := Option.bind_eq_some_iff.mp H
       (try dsimp -simprocs only at H)
       have A24 := Aside0.mk A240
       clear A240
       simp only [Option.some.injEq, Prod.mk.injEq] at H
       obtain ⟨rfl, rfl⟩ := H
       go_wp2_with (first | ((with_reducible refine gate_callee (f := 36) rfl ?_); refine goesL_ (some 59) rfl rfl Try.func36 (by kernel_rfl) rfl #[.bool x9_11, .int .i64 2047, .int .u64 0] rfl ga ?_; (with_reducible refine (word_Make.calls x9_11 2047 0 t303 _ A24.out).mono ?_); rintro e w' ⟨rfl, ⟨nd, rfl⟩⟩; refine ⟨_, rfl, ?_⟩))
       go_ret2
       exact ⟨er, bel⟩
      ·
       rw [if_neg c23] at H
       have c23b0 : (t301 == 4) = false := beq_eq_false_iff_ne.mpr c23
       have c23b1 : (t301 != 4) = true := bne_iff_ne.mpr c23
       obtain ⟨⟨t304, t305⟩, A250, H⟩ := Option.bind_eq_some_iff.mp H
       (try dsimp -simprocs only at H)
       have A25 := Aside0.mk A250
       clear A250
       obtain ⟨⟨t306, t307⟩, A260, H⟩ := Option.bind_eq_some_iff.mp H
       (try dsimp -simprocs only at H)
       have A26 := Aside0.mk A260
       clear A260
       obtain ⟨⟨t308, t309⟩, A270, H⟩ := Option.bind_eq_some_iff.mp H
       (try dsimp -simprocs only at H)
       have A27 := Aside0.mk A270
       clear A270
       obtain ⟨⟨t310, t311⟩, A280, H⟩ := Option.bind_eq_some_iff.mp H
       (try dsimp -simprocs only at H)
       have A28 := Aside0.mk A280
       clear A280
       simp only [Option.some.injEq, Prod.mk.injEq] at H
       obtain ⟨rfl, rfl⟩ := H
       go_wp2_with (first | ((with_reducible refine gate_callee (f := 37) rfl ?_); refine goesL_ (some 62) rfl rfl Try.func37 (by kernel_rfl) rfl #[.int .u64 a0] rfl ga ?_; (with_reducible refine (word_Parts.calls kj11 a0 t304 t305 _ A25.out).mono ?_); rintro e w' ⟨rfl, ⟨nd, rfl⟩⟩; refine ⟨_, rfl, ?_⟩) | ((with_reducible refine gate_callee (f := 37) rfl ?_); refine goesL_ (some 67) rfl rfl Try.func37 (by kernel_rfl) rfl #[.int .u64 a1] rfl ga ?_; (with_reducible refine (word_Parts.calls kj11 a1 t306 t307 _ A26.out).mono ?_); rintro e w' ⟨rfl, ⟨nd, rfl⟩⟩; refine ⟨_, rfl, ?_⟩) | ((with_reducible refine gate_callee (f := 39) rfl ?_); refine goesL_ (some 73) rfl rfl Try.func39 (by kernel_rfl) rfl #[.int .u64 t304, .int .u64 t306] rfl ga ?_; (with_reducible refine (wide_Mul.calls t304 t306 t308 t309 _ A27.out).mono ?_); rintro e w29 ⟨rfl, hb⟩; refine ⟨_, rfl, ?_⟩; refine ax1 (below_step bel hb) ?_; clear HB; intro HB; (try clear hb)) | ((with_reducible refine gate_callee (f := 38) rfl ?_); refine goesL_ (some 77) rfl rfl Try.func38 (by kernel_rfl) rfl #[.bool x9_11, .agg #[.int .u64 t308, .int .u64 t309], .int .i64 (wrap64 (t305 + t307)), .bool false] rfl ga ?_; (with_reducible refine (round_Round.calls kj11 x9_11 t308 t309 (wrap64 (t305 + t307)) false t310 t311 _ A28.out).mono ?_); rintro e w30 ⟨rfl, hb⟩; refine ⟨_, rfl, ?_⟩; refine ax1 (below_step bel hb) ?_; clear HB; intro HB; (try clear hb)))
       go_ret2
       exact ⟨er, bel⟩

/-! ### mul_fits: function 24 -/
def mul_fits.f (k : Nat) (a0_0 : Int) (a0_1 : Int) (a0_2 : Int) (l0_3 : List Int) (a1_0 : Int) (a1_1 : Int) (a1_2 : Int) (l1_3 : List Int) : Option (Int) := (mat_Matrix_Check.f k a0_0 a0_1 a0_2 l0_3).bind fun t321 => (if t321 = 0 then ((mat_Matrix_Check.f k a1_0 a1_1 a1_2 l1_3).bind fun t322 => (if t322 = 0 then (if a0_1 = a1_0 then (some 0) else (some 4)) else (some 4))) else (some 4))
theorem mul_fits.mono : ∀ a0 a1 a2 a3 a4 a5 a6 a7 k, LeO (mul_fits.f k a0 a1 a2 a3 a4 a5 a6 a7) (mul_fits.f (k + 1) a0 a1 a2 a3 a4 a5 a6 a7) := by
 intro a0 a1 a2 a3 a4 a5 a6 a7 k
 unfold mul_fits.f
 repeat' with_reducible first | apply mat_Matrix_Check.mono | exact LeO.refl _ | exact LeO.none _ | refine LeO.ite ?_ ?_ | refine LeO.bind ?_ (fun _ => ?_)
set_option maxHeartbeats 8000000 in
set_option maxRecDepth 100000 in
theorem mul_fits.calls (k : Nat) (a0_0 : Int) (a0_1 : Int) (a0_2 : Int) (A0_3 : Option Addr) (c0_3 : Nat) (l0_3 : List Int) (a1_0 : Int) (a1_1 : Int) (a1_2 : Int) (A1_3 : Option Addr) (c1_3 : Nat) (l1_3 : List Int) (r : Int) (w : World) (hr0_3 : Kd.C (Kd.int .u64) w A0_3 l0_3.length l0_3) (hc0_3 : l0_3.length ≤ c0_3) (hr1_3 : Kd.C (Kd.int .u64) w A1_3 l1_3.length l1_3) (hc1_3 : l1_3.length ≤ c1_3) (h : mul_fits.f k a0_0 a0_1 a0_2 l0_3 a1_0 a1_1 a1_2 l1_3 = some r) :
  Calls Try.prog 24 #[.agg #[.int .i64 a0_0, .int .i64 a0_1, .int .i64 a0_2, .slice A0_3 l0_3.length c0_3], .agg #[.int .i64 a1_0, .int .i64 a1_1, .int .i64 a1_2, .slice A1_3 l1_3.length c1_3]] w fun e w' => e = .returned (.int .i64 r) ∧ Below w.heap.size w w' := by
 have hu25 := Try.underlying25
 have HR0_3 := Aside0.mk hr0_3
 have HC0_3 := Aside0.mk hc0_3
 clear hr0_3 hc0_3
 have HR1_3 := Aside0.mk hr1_3
 have HC1_3 := Aside0.mk hc1_3
 clear hr1_3 hc1_3
 have HB := Aside0.mk (Below.refl w.heap.size w)
 have H : ((mat_Matrix_Check.f k a0_0 a0_1 a0_2 l0_3).bind fun t321 => (if t321 = 0 then ((mat_Matrix_Check.f k a1_0 a1_1 a1_2 l1_3).bind fun t322 => (if t322 = 0 then (if a0_1 = a1_0 then (some 0) else (some 4)) else (some 4))) else (some 4))) = some r := h
 clear h
 obtain ⟨t321, A30, H⟩ := Option.bind_eq_some_iff.mp H
 (try dsimp -simprocs only at H)
 have A3 := Aside0.mk A30
 clear A30
 by_cases c4 : t321 = 0
 rotate_left
 ·
  rw [if_neg c4] at H
  have c4b0 : (t321 == 0) = false := beq_eq_false_iff_ne.mpr c4
  have c4b1 : (t321 != 0) = true := bne_iff_ne.mpr c4
  obtain rfl := Option.some.inj H
  go_enter Try.func24, Try.ntmps24
  go_wp2_with (first | ((with_reducible refine gate_dst (N := 2) rfl ?_); refine gbox (N := 2) (cs := #[.int .i64 a0_0, .int .i64 a0_1, .int .i64 a0_2, .slice A0_3 l0_3.length c0_3]) (t := 25) ?_; intro gb319 hg w33 hbox hb; refine ax4 (below_step bel hb) hbox ((ge hg : w.heap.size ≤ gb319)) ((ge hg : w.heap.size ≤ gb319)) ?_; clear HB; intro HB BK319 GW319 GE319; clear hb hbox hg) | ((with_reducible refine gate_dst (N := 3) rfl ?_); refine gbox (N := 3) (cs := #[.int .i64 a1_0, .int .i64 a1_1, .int .i64 a1_2, .slice A1_3 l1_3.length c1_3]) (t := 25) ?_; intro gb320 hg w34 hbox hb; refine ax7 (bb BK319 hb) (below_step bes hb) hbox ((ge hg : w.heap.size ≤ gb320)) ((ge hg : w.heap.size ≤ gb320)) (nl hg BK319) (ng hg BK319) ?_; clear BK319; clear HB; intro BK319 HB BK320 GW320 GE320 NB319_320 NB320_319; clear hb hbox hg; have hnb35 := NB319_320.out; have hnc35 := NB320_319.out; have hcz36_0 := bc BK319 0 rfl; have hcz36_1 := bc BK319 1 rfl; have hcz36_2 := bc BK319 2 rfl; have hcz36_3 := bc BK319 3 rfl; have hfz36_0 := blk_frozen BK319.out 0; have hfz36_1 := blk_frozen BK319.out 1; have hfz36_2 := blk_frozen BK319.out 2; have hfz36_3 := blk_frozen BK319.out 3) | ((with_reducible refine gate_callee (f := 25) rfl ?_); refine goesL_ (some 6) rfl rfl Try.func25 (by kernel_rfl) rfl #[.agg #[.int .i64 a0_0, .int .i64 a0_1, .int .i64 a0_2, .slice A0_3 l0_3.length c0_3]] rfl ga ?_; (with_reducible refine (mat_Matrix_Check.calls k a0_0 a0_1 a0_2 _ _ l0_3 t321 _ ?side1 ?side2 A3.out).mono ?_); (case side1 => repeat (first | exact (Kd.C_below HR0_3.out HB.out) | (with_reducible refine Kd.C_alloc ?_ _) | (with_reducible refine Kd.C_drewN ?_ _) | (with_reducible refine Kd.C_drew ?_))); (case side2 => exact HC0_3.out); rintro e w37 ⟨rfl, hb⟩; refine ⟨_, rfl, ?_⟩; refine ax3 (bb BK319 hb) (bb BK320 hb) (below_step bes hb) ?_; clear BK319; clear BK320; clear HB; intro BK319 BK320 HB; (try clear hb)))
  go_ret
  exact ⟨er, bes⟩

 rw [if_pos c4] at H
 have c4b0 : (t321 == 0) = true := beq_iff_eq.mpr c4
 have c4b1 : (t321 != 0) = false := bne_eq_false_iff_eq.mpr c4
 clear c4
 obtain ⟨t322, A50, H⟩ := Option.bind_eq_some_iff.mp H
 (try dsimp -simprocs only at H)
 have A5 := Aside0.mk A50
 clear A50
 by_cases c6 : t322 = 0
 rotate_left
 ·
  rw [if_neg c6] at H
  have c6b0 : (t322 == 0) = false := beq_eq_false_iff_ne.mpr c6
  have c6b1 : (t322 != 0) = true := bne_iff_ne.mpr c6
  obtain rfl := Option.some.inj H
  go_enter Try.func24, Try.ntmps24
  go_wp2_with (first | ((with_reducible refine gate_dst (N := 2) rfl ?_); refine gbox (N := 2) (cs := #[.int .i64 a0_0, .int .i64 a0_1, .int .i64 a0_2, .slice A0_3 l0_3.length c0_3]) (t := 25) ?_; intro gb319 hg w26 hbox hb; refine ax4 (below_step bel hb) hbox ((ge hg : w.heap.size ≤ gb319)) ((ge hg : w.heap.size ≤ gb319)) ?_; clear HB; intro HB BK319 GW319 GE319; clear hb hbox hg) | ((with_reducible refine gate_dst (N := 3) rfl ?_); refine gbox (N := 3) (cs := #[.int .i64 a1_0, .int .i64 a1_1, .int .i64 a1_2, .slice A1_3 l1_3.length c1_3]) (t := 25) ?_; intro gb320 hg w27 hbox hb; refine ax7 (bb BK319 hb) (below_step bes hb) hbox ((ge hg : w.heap.size ≤ gb320)) ((ge hg : w.heap.size ≤ gb320)) (nl hg BK319) (ng hg BK319) ?_; clear BK319; clear HB; intro BK319 HB BK320 GW320 GE320 NB319_320 NB320_319; clear hb hbox hg; have hnb28 := NB319_320.out; have hnc28 := NB320_319.out; have hcz29_0 := bc BK319 0 rfl; have hcz29_1 := bc BK319 1 rfl; have hcz29_2 := bc BK319 2 rfl; have hcz29_3 := bc BK319 3 rfl; have hfz29_0 := blk_frozen BK319.out 0; have hfz29_1 := blk_frozen BK319.out 1; have hfz29_2 := blk_frozen BK319.out 2; have hfz29_3 := blk_frozen BK319.out 3) | ((with_reducible refine gate_callee (f := 25) rfl ?_); refine goesL_ (some 6) rfl rfl Try.func25 (by kernel_rfl) rfl #[.agg #[.int .i64 a0_0, .int .i64 a0_1, .int .i64 a0_2, .slice A0_3 l0_3.length c0_3]] rfl ga ?_; (with_reducible refine (mat_Matrix_Check.calls k a0_0 a0_1 a0_2 _ _ l0_3 t321 _ ?side1 ?side2 A3.out).mono ?_); (case side1 => repeat (first | exact (Kd.C_below HR0_3.out HB.out) | (with_reducible refine Kd.C_alloc ?_ _) | (with_reducible refine Kd.C_drewN ?_ _) | (with_reducible refine Kd.C_drew ?_))); (case side2 => exact HC0_3.out); rintro e w30 ⟨rfl, hb⟩; refine ⟨_, rfl, ?_⟩; refine ax3 (bb BK319 hb) (bb BK320 hb) (below_step bes hb) ?_; clear BK319; clear BK320; clear HB; intro BK319 BK320 HB; (try clear hb); have hcz31_0 := bc BK320 0 rfl; have hcz31_1 := bc BK320 1 rfl; have hcz31_2 := bc BK320 2 rfl; have hcz31_3 := bc BK320 3 rfl; have hfz31_0 := blk_frozen BK320.out 0; have hfz31_1 := blk_frozen BK320.out 1; have hfz31_2 := blk_frozen BK320.out 2; have hfz31_3 := blk_frozen BK320.out 3) | (go_at_call 25; (with_reducible refine (mat_Matrix_Check.calls k a1_0 a1_1 a1_2 _ _ l1_3 t322 _ ?side1 ?side2 A5.out).mono ?_); (case side1 => repeat (first | exact (Kd.C_below HR1_3.out HB.out) | (with_reducible refine Kd.C_alloc ?_ _) | (with_reducible refine Kd.C_drewN ?_ _) | (with_reducible refine Kd.C_drew ?_))); (case side2 => exact HC1_3.out); rintro e w32 ⟨rfl, hb⟩; refine ax3 (bb BK319 hb) (bb BK320 hb) (below_step bes hb) ?_; clear BK319; clear BK320; clear HB; intro BK319 BK320 HB; (try clear hb)))
  go_ret
  exact ⟨er, bes⟩
 rw [if_pos c6] at H
 have c6b0 : (t322 == 0) = true := beq_iff_eq.mpr c6
 have c6b1 : (t322 != 0) = false := bne_eq_false_iff_eq.mpr c6
 clear c6
 by_cases c7 : a0_1 = a1_0
 rotate_left
 ·
  rw [if_neg c7] at H
  have c7b0 : (a0_1 == a1_0) = false := beq_eq_false_iff_ne.mpr c7
  have c7b1 : (a0_1 != a1_0) = true := bne_iff_ne.mpr c7
  obtain rfl := Option.some.inj H
  go_enter Try.func24, Try.ntmps24
  go_wp2_with (first | ((with_reducible refine gate_dst (N := 2) rfl ?_); refine gbox (N := 2) (cs := #[.int .i64 a0_0, .int .i64 a0_1, .int .i64 a0_2, .slice A0_3 l0_3.length c0_3]) (t := 25) ?_; intro gb319 hg w17 hbox hb; refine ax4 (below_step bel hb) hbox ((ge hg : w.heap.size ≤ gb319)) ((ge hg : w.heap.size ≤ gb319)) ?_; clear HB; intro HB BK319 GW319 GE319; clear hb hbox hg) | ((with_reducible refine gate_dst (N := 3) rfl ?_); refine gbox (N := 3) (cs := #[.int .i64 a1_0, .int .i64 a1_1, .int .i64 a1_2, .slice A1_3 l1_3.length c1_3]) (t := 25) ?_; intro gb320 hg w18 hbox hb; refine ax7 (bb BK319 hb) (below_step bes hb) hbox ((ge hg : w.heap.size ≤ gb320)) ((ge hg : w.heap.size ≤ gb320)) (nl hg BK319) (ng hg BK319) ?_; clear BK319; clear HB; intro BK319 HB BK320 GW320 GE320 NB319_320 NB320_319; clear hb hbox hg; have hnb19 := NB319_320.out; have hnc19 := NB320_319.out; have hcz20_0 := bc BK319 0 rfl; have hcz20_1 := bc BK319 1 rfl; have hcz20_2 := bc BK319 2 rfl; have hcz20_3 := bc BK319 3 rfl; have hfz20_0 := blk_frozen BK319.out 0; have hfz20_1 := blk_frozen BK319.out 1; have hfz20_2 := blk_frozen BK319.out 2; have hfz20_3 := blk_frozen BK319.out 3) | ((with_reducible refine gate_callee (f := 25) rfl ?_); refine goesL_ (some 6) rfl rfl Try.func25 (by kernel_rfl) rfl #[.agg #[.int .i64 a0_0, .int .i64 a0_1, .int .i64 a0_2, .slice A0_3 l0_3.length c0_3]] rfl ga ?_; (with_reducible refine (mat_Matrix_Check.calls k a0_0 a0_1 a0_2 _ _ l0_3 t321 _ ?side1 ?side2 A3.out).mono ?_); (case side1 => repeat (first | exact (Kd.C_below HR0_3.out HB.out) | (with_reducible refine Kd.C_alloc ?_ _) | (with_reducible refine Kd.C_drewN ?_ _) | (with_reducible refine Kd.C_drew ?_))); (case side2 => exact HC0_3.out); rintro e w21 ⟨rfl, hb⟩; refine ⟨_, rfl, ?_⟩; refine ax3 (bb BK319 hb) (bb BK320 hb) (below_step bes hb) ?_; clear BK319; clear BK320; clear HB; intro BK319 BK320 HB; (try clear hb); have hcz22_0 := bc BK320 0 rfl; have hcz22_1 := bc BK320 1 rfl; have hcz22_2 := bc BK320 2 rfl; have hcz22_3 := bc BK320 3 rfl; have hfz22_0 := blk_frozen BK320.out 0; have hfz22_1 := blk_frozen BK320.out 1; have hfz22_2 := blk_frozen BK320.out 2; have hfz22_3 := blk_frozen BK320.out 3) | (go_at_call 25; (with_reducible refine (mat_Matrix_Check.calls k a1_0 a1_1 a1_2 _ _ l1_3 t322 _ ?side1 ?side2 A5.out).mono ?_); (case side1 => repeat (first | exact (Kd.C_below HR1_3.out HB.out) | (with_reducible refine Kd.C_alloc ?_ _) | (with_reducible refine Kd.C_drewN ?_ _) | (with_reducible refine Kd.C_drew ?_))); (case side2 => exact HC1_3.out); rintro e w23 ⟨rfl, hb⟩; refine ax3 (bb BK319 hb) (bb BK320 hb) (below_step bes hb) ?_; clear BK319; clear BK320; clear HB; intro BK319 BK320 HB; (try clear hb); have hcz24_0 := bc BK319 0 rfl; have hcz24_1 := bc BK319 1 rfl; have hcz24_2 := bc BK319 2 rfl; have hcz24_3 := bc BK319 3 rfl; have hfz24_0 := blk_frozen BK319.out 0; have hfz24_1 := blk_frozen BK319.out 1; have hfz24_2 := blk_frozen BK319.out 2; have hfz24_3 := blk_frozen BK319.out 3; have hcz25_0 := bc BK320 0 rfl; have hcz25_1 := bc BK320 1 rfl; have hcz25_2 := bc BK320 2 rfl; have hcz25_3 := bc BK320 3 rfl; have hfz25_0 := blk_frozen BK320.out 0; have hfz25_1 := blk_frozen BK320.out 1; have hfz25_2 := blk_frozen BK320.out 2; have hfz25_3 := blk_frozen BK320.out 3))
  go_ret
  exact ⟨er, bes⟩
 rw [if_pos c7] at H
 have c7b0 : (a0_1 == a1_0) = true := beq_iff_eq.mpr c7
 have c7b1 : (a0_1 != a1_0) = false := bne_eq_false_iff_eq.mpr c7
 clear c7
 obtain rfl := Option.some.inj H
 go_enter Try.func24, Try.ntmps24
 go_wp2_with (first | ((with_reducible refine gate_dst (N := 2) rfl ?_); refine gbox (N := 2) (cs := #[.int .i64 a0_0, .int .i64 a0_1, .int .i64 a0_2, .slice A0_3 l0_3.length c0_3]) (t := 25) ?_; intro gb319 hg w8 hbox hb; refine ax4 (below_step bel hb) hbox ((ge hg : w.heap.size ≤ gb319)) ((ge hg : w.heap.size ≤ gb319)) ?_; clear HB; intro HB BK319 GW319 GE319; clear hb hbox hg) | ((with_reducible refine gate_dst (N := 3) rfl ?_); refine gbox (N := 3) (cs := #[.int .i64 a1_0, .int .i64 a1_1, .int .i64 a1_2, .slice A1_3 l1_3.length c1_3]) (t := 25) ?_; intro gb320 hg w9 hbox hb; refine ax7 (bb BK319 hb) (below_step bes hb) hbox ((ge hg : w.heap.size ≤ gb320)) ((ge hg : w.heap.size ≤ gb320)) (nl hg BK319) (ng hg BK319) ?_; clear BK319; clear HB; intro BK319 HB BK320 GW320 GE320 NB319_320 NB320_319; clear hb hbox hg; have hnb10 := NB319_320.out; have hnc10 := NB320_319.out; have hcz11_0 := bc BK319 0 rfl; have hcz11_1 := bc BK319 1 rfl; have hcz11_2 := bc BK319 2 rfl; have hcz11_3 := bc BK319 3 rfl; have hfz11_0 := blk_frozen BK319.out 0; have hfz11_1 := blk_frozen BK319.out 1; have hfz11_2 := blk_frozen BK319.out 2; have hfz11_3 := blk_frozen BK319.out 3) | ((with_reducible refine gate_callee (f := 25) rfl ?_); refine goesL_ (some 6) rfl rfl Try.func25 (by kernel_rfl) rfl #[.agg #[.int .i64 a0_0, .int .i64 a0_1, .int .i64 a0_2, .slice A0_3 l0_3.length c0_3]] rfl ga ?_; (with_reducible refine (mat_Matrix_Check.calls k a0_0 a0_1 a0_2 _ _ l0_3 t321 _ ?side1 ?side2 A3.out).mono ?_); (case side1 => repeat (first | exact (Kd.C_below HR0_3.out HB.out) | (with_reducible refine Kd.C_alloc ?_ _) | (with_reducible refine Kd.C_drewN ?_ _) | (with_reducible refine Kd.C_drew ?_))); (case side2 => exact HC0_3.out); rintro e w12 ⟨rfl, hb⟩; refine ⟨_, rfl, ?_⟩; refine ax3 (bb BK319 hb) (bb BK320 hb) (below_step bes hb) ?_; clear BK319; clear BK320; clear HB; intro BK319 BK320 HB; (try clear hb); have hcz13_0 := bc BK320 0 rfl; have hcz13_1 := bc BK320 1 rfl; have hcz13_2 := bc BK320 2 rfl; have hcz13_3 := bc BK320 3 rfl; have hfz13_0 := blk_frozen BK320.out 0; have hfz13_1 := blk_frozen BK320.out 1; have hfz13_2 := blk_frozen BK320.out 2; have hfz13_3 := blk_frozen BK320.out 3) | (go_at_call 25; (with_reducible refine (mat_Matrix_Check.calls k a1_0 a1_1 a1_2 _ _ l1_3 t322 _ ?side1 ?side2 A5.out).mono ?_); (case side1 => repeat (first | exact (Kd.C_below HR1_3.out HB.out) | (with_reducible refine Kd.C_alloc ?_ _) | (with_reducible refine Kd.C_drewN ?_ _) | (with_reducible refine Kd.C_drew ?_))); (case side2 => exact HC1_3.out); rintro e w14 ⟨rfl, hb⟩; refine ax3 (bb BK319 hb) (bb BK320 hb) (below_step bes hb) ?_; clear BK319; clear BK320; clear HB; intro BK319 BK320 HB; (try clear hb); have hcz15_0 := bc BK319 0 rfl; have hcz15_1 := bc BK319 1 rfl; have hcz15_2 := bc BK319 2 rfl; have hcz15_3 := bc BK319 3 rfl; have hfz15_0 := blk_frozen BK319.out 0; have hfz15_1 := blk_frozen BK319.out 1; have hfz15_2 := blk_frozen BK319.out 2; have hfz15_3 := blk_frozen BK319.out 3; have hcz16_0 := bc BK320 0 rfl; have hcz16_1 := bc BK320 1 rfl; have hcz16_2 := bc BK320 2 rfl; have hcz16_3 := bc BK320 3 rfl; have hfz16_0 := blk_frozen BK320.out 0; have hfz16_1 := blk_frozen BK320.out 1; have hfz16_2 := blk_frozen BK320.out 2; have hfz16_3 := blk_frozen BK320.out 3))
 go_ret
 exact ⟨er, bes⟩
end Go.Proofs.Ytfogmgcpajndcaa.F
