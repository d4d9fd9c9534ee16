-- Written by a program of this seat's session (mkprint), out of the translation.
import Derived.Test.YtnjobojkoaknpaaDoorShort
import Derived.Test.YtnjobojkoaknpaaDoorFx0
import Derived.Test.YtnjobojkoaknpaaDoorFx2
import Derived.Test.YtnjobojkoaknpaaDoorFx5
import Derived.Test.YtnjobojkoaknpaaDoorFx10
namespace Go.Proofs.YtnjobojkoaknpaaDoor.F
open Go.RowKit Go.Proofs.YtnjobojkoaknpaaDoorW.PrintWords Go.Proofs.YtnjobojkoaknpaaDoorW.PrintLast Go.Proofs.YtnjobojkoaknpaaDoorW.PrintMore
attribute [local go_sem] uh uf vv vw qw qp tu ui   -- for this text's walks alone
set_option linter.unusedVariables false
set_option linter.unusedSimpArgs false

/-! ### cz: function 13 -/
def cz.l0 : Nat → List Int → Int → Int → Int → Int → Int → Int → List Int → Option (Int × Int × Int × List Int)
 | 0, _, _, _, _, _, _, _, _ => none
 | k + 1, x1, x2, x14, x15, x421000, x421001, x421002, x421003 => if x15 < x14 then (if (x1.length : Int) > 0 then (if (x1.length : Int) = 0 then (none) else (if 0 ≤ (Int.tmod (wrap64 (x15 + x2)) (x1.length : Int)) then (if (Int.tmod (wrap64 (x15 + x2)) (x1.length : Int)) < (x1.length : Int) then (if 0 ≤ x15 then (if x15 < (x421003.length : Int) then (cz.l0 k x1 x2 x14 (wrap64 (x15 + 1)) x421000 x421001 x421002 (x421003.set (x15 : Int).toNat (rd x1 (Int.tmod (wrap64 (x15 + x2)) (x1.length : Int))))) else (none)) else (none)) else (none)) else (none))) else (cz.l0 k x1 x2 x14 (wrap64 (x15 + 1)) x421000 x421001 x421002 x421003)) else (some (x421000, x421001, x421002, x421003))
def cz.f (k : Nat) (a0 : Int) (l1 : List Int) (a2 : Int) : Option (Int × Int × Int × List Int) := (Ab.f a0 a0).bind fun bt414 => (cz.l0 k l1 a2 (bt414.2.2.2.length : Int) 0 bt414.1 bt414.2.1 bt414.2.2.1 bt414.2.2.2)
theorem cz.jm : ∀ k, (∀ y0 y1 y2 y3 y4 y5 y6 y7, LeO (cz.l0 k y0 y1 y2 y3 y4 y5 y6 y7) (cz.l0 (k + 1) y0 y1 y2 y3 y4 y5 y6 y7))
 | 0 => fun _ _ _ _ _ _ _ _ r h => by simp [cz.l0] at h
 | k + 1 => by
  have ih0 := cz.jm k
  ·
   intro y0 y1 y2 y3 y4 y5 y6 y7
   unfold cz.l0
   repeat' with_reducible first | apply ih0 | exact LeO.refl _ | exact LeO.none _ | refine LeO.ite ?_ ?_ | refine LeO.bind ?_ (fun _ => ?_)
theorem cz.mono : ∀ a0 a1 a2 k, LeO (cz.f k a0 a1 a2) (cz.f (k + 1) a0 a1 a2) := by
 intro a0 a1 a2 k; have ih0 := cz.jm k
 unfold cz.f
 repeat' with_reducible first | apply ih0 | exact LeO.refl _ | exact LeO.none _ | refine LeO.ite ?_ ?_ | refine LeO.bind ?_ (fun _ => ?_)
def cz.T6 : Bool × List (List Nat × List Nat) := (true, [([], []), ([0], [0]), ([], []), ([], []), ([], []), ([], []), ([4, 5], [4, 5]), ([], []), ([7], [7]), ([6, 8], [6, 8]), ([3, 9], [3, 9]), ([10], [10]), ([1, 2, 0, 1, 2, 3, 4, 5, 6, 7, 8, 9, 10, 11], [1, 2]), ([12, 11, 0, 1, 2, 3, 4, 5, 6, 7, 8, 9, 10, 11], [11, 12])])
def cz.B6 : List Nat := [0, 1, 0, 0, 0, 0, 48, 0, 128, 496, 1016, 2040, 4095, 8191]
theorem cz.tab6 : xe .any (opsOf Tryd.f13 6) = cz.T6 := by kernel_rfl
theorem cz.bits6 : r9 cz.T6.2 cz.B6 = true := by kernel_rfl
set_option maxHeartbeats 8000000 in
set_option maxRecDepth 100000 in
theorem cz.calls (k : Nat) (a0 : Int) (A1 : Option Addr) (c1 : Nat) (l1 : List Int) (a2 : Int) (r1 : Int) (r2 : Int) (r3 : Int) (r4 : List Int) (w : World) (hr1 : Kd.C (Kd.int .u64) w A1 l1.length l1) (hc1 : l1.length ≤ c1) (h : cz.f k a0 l1 a2 = some (r1, r2, r3, r4)) :
  Calls Tryd.prog 13 #[.int .i64 a0, .slice A1 l1.length c1, .int .i64 a2] w fun e w' => ∃ v3_ : Value, e = .returned (.agg #[.int .i64 r1, .int .i64 r2, .int .i64 r3, v3_]) ∧ Kd.R (Kd.int .u64) 24 w' w.heap.size (fun _ => True) v3_ r4 ∧ Below w.heap.size w w' := by
 have hu35 := Tryd.underlying35; have HR1 := aa.mk hr1; have HC1 := aa.mk hc1; clear hr1 hc1; have HB := aa.mk (Below.refl w.heap.size w); have H : ((Ab.f a0 a0).bind fun bt414 => (cz.l0 k l1 a2 (bt414.2.2.2.length : Int) 0 bt414.1 bt414.2.1 bt414.2.2.1 bt414.2.2.2)) = some (r1, r2, r3, r4) := h; clear h; obtain ⟨⟨t414, t415, t416, t417⟩, A4, H⟩ := ob H; (try dsimp -simprocs only at H); have H' := aa.mk H; clear H; go_enter Tryd.func13, Tryd.ntmps13
 go_wp2_with (first | ((with_reducible refine bq (N := 6) rfl ?_); refine l5 (N := 6) (cs := #[.int .i64 0, .int .i64 0, .int .i64 0, .slice none 0 0]) (t := 35) ?_; intro gb413 hg w5 hbox hb; refine ax4 (af bel hb) hbox ((ge hg : w.heap.size ≤ gb413)) ((ge hg : w.heap.size ≤ gb413)) ?_; clear HB; intro HB BK413 GW413 GE413; clear hb hbox hg) | ((with_reducible refine ag (f := 10) rfl ?_); refine df (some 11) rfl rfl Tryd.func10 (by kernel_rfl) rfl #[.int .i64 a0, .int .i64 a0] rfl ga ?_; (with_reducible refine (Ab.calls a0 a0 t414 t415 t416 t417 _ A4.out).mono ?_); rintro e w6 ⟨v418, rfl, ho0, hb⟩; refine ⟨_, rfl, ?_⟩; refine ax3 (Kd.pg ho0 (az bes)) (bb BK413 hb) (af bes hb) ?_; clear BK413; clear HB; intro HO419 BK413 HB; (try clear hb); (try clear ho0)) | ((with_reducible refine bq (N := 7) rfl ?_); refine l5 (N := 7) (cs := #[.int .i64 0, .int .i64 0, .int .i64 0, .slice none 0 0]) (t := 35) ?_; intro gb420 hg w7 hbox hb; refine ax8 (Kd.cu (kr HO419) hb) (bb BK413 hb) (af bes hb) hbox ((ge hg : w.heap.size ≤ gb420)) ((ge hg : w.heap.size ≤ gb420)) (nl hg BK413) (ng hg BK413) ?_; clear HO419; clear BK413; clear HB; intro HO419 BK413 HB BK420 GW420 GE420 NB413_420 NB420_413; clear hb hbox hg; have hnb8 := NB420_413.out; have hnc8 := NB413_420.out; have ⟨_, _⟩ := cf BK420 0 rfl; have ⟨_, _⟩ := cf BK420 1 rfl; have ⟨_, _⟩ := cf BK420 2 rfl; have ⟨_, _⟩ := cf BK420 3 rfl; obtain ⟨Ao10, co10, eo10⟩ := Kd.mg HO419.out; subst eo10))
 go_loopg [15] k (fun kq v15 w' => ∃ (x15_1 : Int) (x421003_1 : List Int) (u421003 : Value), v15 = .int .i64 x15_1 ∧ aa (cz.l0 kq l1 a2 (t417.length : Int) x15_1 t414 t415 t416 x421003_1 = some (r1, r2, r3, r4)) ∧ aa (kq ≤ k) ∧ aa (Kd.R (Kd.int .u64) 24 w' w.heap.size (fun _ => True) u421003 x421003_1) ∧ aa (w'.heap[gb413]? = some (.cells #[.int .i64 0, .int .i64 0, .int .i64 0, (.slice none 0 0)] 35 (0, 0))) ∧ aa (w'.heap[gb420]? = some (.cells #[.int .i64 t414, .int .i64 t415, .int .i64 t416, u421003] 35 (0, 0))) ∧ aa (Below w.heap.size w w'))
 case atStart => exact ⟨(0), (t417), (.slice Ao10 t417.length co10), (by first | rfl | (simp; done) | (simp [*]; done)), H', ⟨Nat.le_refl _⟩, ⟨by (with_reducible repeat (first | apply Kd.lq | apply Kd.lu | apply Kd.jy)); exact Kd.ku (Kd.jo (p := ⟨gb420, 3, none⟩) (Kd.jo (p := ⟨gb420, 2, none⟩) (Kd.jo (p := ⟨gb420, 1, none⟩) (Kd.jo (p := ⟨gb420, 0, none⟩) (Kd.fe HO419.out BK420.out (by decide)) (fun _ hk => hk.2) (.int .i64 t414)) (fun _ hk => hk.2) (.int .i64 t415)) (fun _ hk => hk.2) (.int .i64 t416)) (fun _ hk => hk.2) (.slice Ao10 t417.length co10)) (fun _ hk => trivial)⟩, ⟨bf BK413 NB413_420⟩, ⟨bp BK420⟩, ⟨bes⟩⟩
 case round =>
  clear H'
  obtain ⟨x15_1, x421003_1, u421003, rfl, HA, HK1, HO_421003, BK413, BK420, HB⟩ := hrel; cases gk with
  | zero => exact absurd HA.out (by simp [cz.l0])
  | succ k1 =>
   have H := HA.out; clear HA; simp only [cz.l0] at H
   by_cases c11 : x15_1 < (t417.length : Int)
   ·
    rw [if_pos c11] at H; have c11b0 : decide (x15_1 < (t417.length : Int)) = true := decide_eq_true c11; clear c11
    by_cases c12 : (l1.length : Int) > 0
    rotate_left
    ·
     rw [if_neg c12] at H; have c12b0 : decide (0 < (l1.length : Int)) = false := decide_eq_false c12; have c12b1 : decide (0 < l1.length) = false := decide_eq_false (by omega); clear c12; have H' := aa.mk H; clear H; go_wp2
     go_roundg k1
     case measure => have := HK1.out; omega
     case rel => exact ⟨(wrap64 (x15_1 + 1)), (x421003_1), (u421003), (by first | rfl | (simp; done) | (simp [*]; done)), H', ⟨by have := HK1.out; omega⟩, ⟨kr HO_421003⟩, ⟨kb BK413⟩, ⟨kb BK420⟩, ⟨bes⟩⟩
    rw [if_pos c12] at H; have c12b0 : decide (0 < (l1.length : Int)) = true := decide_eq_true c12; have c12b1 : decide (0 < l1.length) = true := decide_eq_true (by omega); clear c12
    by_cases c13 : (l1.length : Int) = 0
    ·
     rw [if_pos c13] at H; exact absurd H (by simp)
    ·
     rw [if_neg c13] at H; have c13b0 := beq_eq_false_iff_ne.mpr c13; have c13b1 := bne_iff_ne.mpr c13; have c13b2 : ¬ (l1 = []) := fun h_ => c13 (by rw [h_]; rfl)
     obtain ⟨ji14, hji14⟩ : ∃ j_ : Int, (Int.tmod (wrap64 (x15_1 + a2)) (l1.length : Int)) = j_ := ⟨_, rfl⟩; replace H : (if 0 ≤ (ji14) then (if (ji14) < (l1.length : Int) then (if 0 ≤ x15_1 then (if x15_1 < (x421003_1.length : Int) then (cz.l0 k1 l1 a2 (t417.length : Int) (wrap64 (x15_1 + 1)) t414 t415 t416 (x421003_1.set (x15_1 : Int).toNat (rd l1 (ji14)))) else (none)) else (none)) else (none)) else (none)) = some (r1, r2, r3, r4) := by first | (rw [hji14] at H; exact H) | (simp only [hji14] at H ⊢; exact H)
     by_cases c15 : 0 ≤ (ji14)
     rotate_left
     ·
      rw [if_neg c15] at H; exact absurd H (by simp)
     rw [if_pos c15] at H; have c15b0 := decide_eq_true c15; clear c15
     by_cases c16 : (ji14) < (l1.length : Int)
     rotate_left
     ·
      rw [if_neg c16] at H; exact absurd H (by simp)
     rw [if_pos c16] at H; have c16b0 := decide_eq_true c16; clear c16
     by_cases c17 : 0 ≤ x15_1
     rotate_left
     ·
      rw [if_neg c17] at H; exact absurd H (by simp)
     rw [if_pos c17] at H; have c17b0 := decide_eq_true c17; clear c17
     by_cases c18 : x15_1 < (x421003_1.length : Int)
     rotate_left
     ·
      rw [if_neg c18] at H; exact absurd H (by simp)
     rw [if_pos c18] at H; have c18b0 := decide_eq_true c18; clear c18; obtain ⟨y422, hy422⟩ : ∃ y_ : List Int, y_ = (x421003_1.set (x15_1 : Int).toNat (rd l1 (ji14))) := ⟨_, rfl⟩; replace H : (cz.l0 k1 l1 a2 (t417.length : Int) (wrap64 (x15_1 + 1)) t414 t415 t416 y422) = some (r1, r2, r3, r4) := by first | (rw [hy422]; with_reducible exact H) | (have H2_ := (Option.bind_some _ _).symm.trans H; rw [hy422]; with_reducible exact H2_) | (have H2_ := (Option.bind_some _ _).symm.trans H; with_reducible exact H2_) | with_reducible exact H | (rw [hy422]; exact H) | exact H
     have Ny422 := aa.mk hy422; clear hy422; have H' := aa.mk H; clear H
     try go_wp2
     refine ax4 (Kd.jy HO_421003.out) (dz BK413.out) (dz BK420.out) (gy HB.out) ?_; clear HO_421003 BK413 BK420 HB; intro HO_421003 BK413 BK420 HB; have p421 : 0 ≤ ((ji14) : Int) := of_decide_eq_true (by first | (with_reducible assumption) | assumption); have q421 : (ji14) < (l1.length : Int) := of_decide_eq_true (by first | (with_reducible assumption) | assumption); obtain ⟨ad421, e421, hx421_0⟩ := Kd.lc HR1.out (ji14) p421 q421; have hw421_0 := hx421_0; cases e421; replace hx421_0 := (HB.out.cell (World.block_lt_of_cell? w _ hx421_0)).trans hx421_0; replace p421 := eq_true p421; replace q421 := eq_true q421; have p19 : 0 ≤ (x15_1 : Int) := of_decide_eq_true (by first | (with_reducible assumption) | assumption); have q19 : (x15_1 : Int) < ((x421003_1.length : Int) : Int) := of_decide_eq_true (by first | (with_reducible assumption) | assumption); obtain ⟨go19, co19, eo19, gb19, gl19, cl19, HG19⟩ := Kd.Ca HO_421003.out (by omega)
     (first | cases eo19 | (injection eo19 with ea_ en_ ec_; (first | subst ea_ | (injection ea_ with ea_; subst ea_)); subst ec_; clear en_))
     have GB19 := aa.mk gb19; have GG19 := aa.mk HG19; clear gb19 gl19 HG19; obtain ⟨hx19_0, hf19_0⟩ := Kd.zn 0 HO_421003.out (x15_1 : Int) p19 q19; replace p19 := eq_true p19; replace q19 := eq_true q19; have HP21 := Kd.Fh HO_421003.out (x15_1 : Int) (rd l1 (ji14)); rw [← Ny422.out] at HP21; have HQ21 := aa.mk HP21; clear HP21; refine vk (n := 14) (S := fun w' => w'.cell? ⟨gb420, 0, none⟩ = some (.int .i64 t414) ∧ w'.cell? ⟨gb420, 1, none⟩ = some (.int .i64 t415) ∧ w'.cell? ⟨gb420, 2, none⟩ = some (.int .i64 t416) ∧ w'.cell? ⟨gb420, 3, none⟩ = some (.slice (some ⟨go19, 0, none⟩) x421003_1.length co19) ∧ w'.cell? (ad421.add ((ji14)).toNat) = some (.int .u64 (rd l1 (ji14)))) (ds := [13]) #[false, false, false, false, false, false, false, false, false, false, false, false, false, false] (by kernel_rfl) rfl rfl ⟨bk BK420 0, bk BK420 1, bk BK420 2, bk BK420 3, ((HB.out.cell (World.block_lt_of_cell? w _ hw421_0)).trans hw421_0)⟩ (fun hHeld => ?_); refine qa cz.tab6 cz.bits6 (fun HT_ HW_ => ?_)
     generalize wr.drew = w20 at HO_421003 BK413 BK420 HB GG19 HQ21 hf19_0 hx19_0 hx421_0 hHeld ⊢
     refine pu 0 21 (lm 14 1) HT_ ?_; refine pu 2 23 (lm 14 5) HT_ ?_; refine pu 3 24 (lm 14 13) HT_ ?_; refine pu 4 25 (lm 14 29) HT_ ?_; refine pu 5 26 (lm 14 61) HT_ ?_; refine pu 6 27 (lm 14 125) HT_ ?_; refine pu 7 28 (lm 14 253) HT_ ?_; refine pu 8 29 (lm 14 509) HT_ ?_; refine pu 9 30 (lm 14 1021) HT_ ?_; refine pu 10 31 (lm 14 2045) HT_ ?_; refine ta 1 22 (lm 14 2047) HT_ HW_ hHeld ?_; refine ta 11 32 (lm 14 4095) HT_ HW_ hHeld ?_; refine pu 12 33 (lm 14 8191) HT_ ?_; refine Ea (i := 13) (N := none) #[true, true, true, true, true, true, true, true, true, true, true, true, true, true] rfl rfl (Dc HT_.out (by kernel_rfl)) (by decide) (fun K hK => ?_); refine Av (w1 := ?_) (by rfl) rfl ?_ ?_; rotate_left
     ·
      go_simp
      rfl
     refine hK.out _ _ ?_; clear hK K; refine zg (uy HT_.out (by kernel_rfl)) ?_
     try go_wp2
     go_roundg k1
     case measure => have := HK1.out; omega
     case rel => exact ⟨(wrap64 (x15_1 + 1)), (y422), (.slice (some ⟨go19, 0, none⟩) x421003_1.length co19), (by first | rfl | (simp; done) | (simp [*]; done)), H', ⟨by have := HK1.out; omega⟩, ⟨kr HQ21⟩, ⟨by (with_reducible repeat (first | refine jk ?_ _ | refine dz ?_ | refine jb ?_ _)); refine yj ?_ (by have h_ := Kd.vg HO_421003.out BK413.out (by decide); intro e_; exact h_ (by rw [e_]; rfl)) _; (with_reducible repeat (first | refine jk ?_ _ | refine dz ?_ | refine jb ?_ _)); exact BK413.out⟩, ⟨by (with_reducible repeat (first | refine jk ?_ _ | refine dz ?_ | refine jb ?_ _)); refine yj ?_ (by have h_ := Kd.vg HO_421003.out BK420.out (by decide); intro e_; exact h_ (by rw [e_]; rfl)) _; (with_reducible repeat (first | refine jk ?_ _ | refine dz ?_ | refine jb ?_ _)); exact BK420.out⟩, ⟨bes⟩⟩
   ·
    rw [if_neg c11] at H; have c11b0 : decide (x15_1 < (t417.length : Int)) = false := decide_eq_false c11; clear c11; simp only [Option.some.injEq, Prod.mk.injEq] at H; obtain ⟨rfl, rfl, rfl, rfl⟩ := H; have hnb22 := NB420_413.out; have hnc22 := NB413_420.out; have ⟨_, _⟩ := cf BK420 0 rfl; have ⟨_, _⟩ := cf BK420 1 rfl; have ⟨_, _⟩ := cf BK420 2 rfl; have ⟨_, _⟩ := cf BK420 3 rfl; have ⟨_, _⟩ := cf BK413 0 rfl; have ⟨_, _⟩ := cf BK413 1 rfl; have ⟨_, _⟩ := cf BK413 2 rfl; have ⟨_, _⟩ := cf BK413 3 rfl; obtain ⟨Ao25, co25, eo25⟩ := Kd.mg HO_421003.out; subst eo25; go_wp2; refine bodyPost_ret (results_cell_row rfl _ _ gb413 35 #[.int .i64 t414, .int .i64 t415, .int .i64 t416, .slice Ao25 x421003_1.length co25] (0, 0) _ rfl (bp BK413) Tryd.underlying35 rfl (by kernel_rfl)) rfl ?_; exact ⟨_, er, by (with_reducible repeat (first | apply Kd.lq | apply Kd.lu | apply Kd.jy)); exact Kd.ku (Kd.jo (p := ⟨gb413, 3, none⟩) (Kd.jo (p := ⟨gb413, 2, none⟩) (Kd.jo (p := ⟨gb413, 1, none⟩) (Kd.jo (p := ⟨gb413, 0, none⟩) (Kd.fe HO_421003.out BK413.out (by decide)) (fun _ hk => hk.2) (.int .i64 t414)) (fun _ hk => hk.2) (.int .i64 t415)) (fun _ hk => hk.2) (.int .i64 t416)) (fun _ hk => hk.2) (.slice Ao25 x421003_1.length co25)) (fun _ hk => trivial), bes⟩

/-! ### d9: function 14 -/
def d9.l0 : Nat → Int → List Int → Int → List Int → Int → Option (List Int)
 | 0, _, _, _, _, _ => none
 | k + 1, x0, x1, x2, x7, x8 => if x8 < x0 then (if (x1.length : Int) > 0 then (if (x1.length : Int) = 0 then (none) else (if 0 ≤ (Int.tmod (wrap64 (x8 + x2)) (x1.length : Int)) then (if (Int.tmod (wrap64 (x8 + x2)) (x1.length : Int)) < (x1.length : Int) then (if x7.length < 17592186044416 then (d9.l0 k x0 x1 x2 (x7 ++ [rd x1 (Int.tmod (wrap64 (x8 + x2)) (x1.length : Int))]) (wrap64 (x8 + 1))) else (none)) else (none)) else (none))) else (if x7.length < 17592186044416 then (d9.l0 k x0 x1 x2 (x7 ++ [4607182418800017408]) (wrap64 (x8 + 1))) else (none))) else (some x7)
def d9.f (k : Nat) (a0 : Int) (l1 : List Int) (a2 : Int) : Option (List Int) := d9.l0 k a0 l1 a2 (([] : List Int)) 0
theorem d9.jm : ∀ k, (∀ y0 y1 y2 y3 y4, LeO (d9.l0 k y0 y1 y2 y3 y4) (d9.l0 (k + 1) y0 y1 y2 y3 y4))
 | 0 => fun _ _ _ _ _ r h => by simp [d9.l0] at h
 | k + 1 => by
  have ih0 := d9.jm k
  ·
   intro y0 y1 y2 y3 y4
   unfold d9.l0
   repeat' with_reducible first | apply ih0 | exact LeO.refl _ | exact LeO.none _ | refine LeO.ite ?_ ?_ | refine LeO.bind ?_ (fun _ => ?_)
theorem d9.mono : ∀ a0 a1 a2 k, LeO (d9.f k a0 a1 a2) (d9.f (k + 1) a0 a1 a2) := by
 intro a0 a1 a2 k; have ih0 := d9.jm k
 unfold d9.f
 repeat' with_reducible first | apply ih0 | exact LeO.refl _ | exact LeO.none _ | refine LeO.ite ?_ ?_ | refine LeO.bind ?_ (fun _ => ?_)
set_option maxHeartbeats 8000000 in
set_option maxRecDepth 100000 in
theorem d9.calls (k : Nat) (a0 : Int) (A1 : Option Addr) (c1 : Nat) (l1 : List Int) (a2 : Int) (r : List Int) (w : World) (hr1 : Kd.C (Kd.int .u64) w A1 l1.length l1) (hc1 : l1.length ≤ c1) (h : d9.f k a0 l1 a2 = some r) :
  Calls Tryd.prog 14 #[.int .i64 a0, .slice A1 l1.length c1, .int .i64 a2] w fun e w' => ∃ v0_ : Value, e = .returned (v0_) ∧ Kd.R (Kd.int .u64) 24 w' w.heap.size (fun _ => True) v0_ r ∧ Below w.heap.size w w' := by
 have HR1 := aa.mk hr1; have HC1 := aa.mk hc1; clear hr1 hc1; have HB := aa.mk (Below.refl w.heap.size w); have H : (d9.l0 k a0 l1 a2 (([] : List Int)) 0) = some r := h; clear h; obtain ⟨y423, hy423⟩ : ∃ y_ : List Int, y_ = (([] : List Int)) := ⟨_, rfl⟩; replace H : (d9.l0 k a0 l1 a2 y423 0) = some r := by first | (rw [hy423]; with_reducible exact H) | (have H2_ := (Option.bind_some _ _).symm.trans H; rw [hy423]; with_reducible exact H2_) | (have H2_ := (Option.bind_some _ _).symm.trans H; with_reducible exact H2_) | with_reducible exact H | (rw [hy423]; exact H) | exact H
 have Ny423 := aa.mk hy423; clear hy423; have H' := aa.mk H; clear H; go_enter Tryd.func14, Tryd.ntmps14
 go_wp2_with (first | ((with_reducible refine bq (N := 9) rfl ?_); refine Kd.Cj (Kd.int .u64) _ 24 ?hg (N := 9) ?hd (xs := ([] : List Int)) (inner := []) (ok := fun _ => True) (okp := fun _ => True) ?hr ?hp (fun _ hk => hk) trivial (Below.refl _ _) (Nat.le_refl _) (by simp) ?_; (case hd => rfl); (case hg => rfl); (case hr => first | (go_simp; done) | (go_simp; rfl)); (case hp => exact (qj.none _ _)); intro v424 w4 ho5 hb hg_ hnew_; clear hg_ hnew_; (first | rw [← Ny423.out] at ho5 | (simp only [Int.reduceToNat] at ho5; rw [← Ny423.out] at ho5)); refine ax2 (Kd.pg ho5 (az bel)) (af bel hb) ?_; clear HB; intro HO425 HB; clear hb ho5))
 go_loopg [7, 8] k (fun kq v7 v8 w' => ∃ (x7_1 : List Int) (x8_1 : Int), v8 = .int .i64 x8_1 ∧ aa (d9.l0 kq a0 l1 a2 x7_1 x8_1 = some r) ∧ aa (kq ≤ k) ∧ aa (Kd.R (Kd.int .u64) 24 w' w.heap.size (fun _ => True) v7 x7_1) ∧ aa (Below w.heap.size w w'))
 case atStart => exact ⟨(y423), (0), (by first | rfl | (simp; done) | (simp [*]; done)), H', ⟨Nat.le_refl _⟩, ⟨kr HO425⟩, ⟨bel⟩⟩
 case round =>
  clear H'
  obtain ⟨x7_1, x8_1, rfl, HA, HK1, HO_7, HB⟩ := hrel; cases gk with
  | zero => exact absurd HA.out (by simp [d9.l0])
  | succ k1 =>
   have H := HA.out; clear HA; simp only [d9.l0] at H
   by_cases c6 : x8_1 < a0
   rotate_left
   ·
    rw [if_neg c6] at H; have c6b0 : decide (x8_1 < a0) = false := decide_eq_false c6; clear c6; obtain rfl := Option.some.inj H; go_wp2; go_ret; exact ⟨_, er, kr HO_7, bel⟩

   rw [if_pos c6] at H; have c6b0 : decide (x8_1 < a0) = true := decide_eq_true c6; clear c6
   by_cases c7 : (l1.length : Int) > 0
   ·
    rw [if_pos c7] at H; have c7b0 : decide (0 < (l1.length : Int)) = true := decide_eq_true c7; have c7b1 : decide (0 < l1.length) = true := decide_eq_true (by omega); clear c7
    by_cases c8 : (l1.length : Int) = 0
    ·
     rw [if_pos c8] at H; exact absurd H (by simp)
    ·
     rw [if_neg c8] at H; have c8b0 := beq_eq_false_iff_ne.mpr c8; have c8b1 := bne_iff_ne.mpr c8; have c8b2 : ¬ (l1 = []) := fun h_ => c8 (by rw [h_]; rfl)
     obtain ⟨ji9, hji9⟩ : ∃ j_ : Int, (Int.tmod (wrap64 (x8_1 + a2)) (l1.length : Int)) = j_ := ⟨_, rfl⟩; replace H : (if 0 ≤ (ji9) then (if (ji9) < (l1.length : Int) then (if x7_1.length < 17592186044416 then (d9.l0 k1 a0 l1 a2 (x7_1 ++ [rd l1 (ji9)]) (wrap64 (x8_1 + 1))) else (none)) else (none)) else (none)) = some r := by first | (rw [hji9] at H; exact H) | (simp only [hji9] at H ⊢; exact H)
     by_cases c10 : 0 ≤ (ji9)
     rotate_left
     ·
      rw [if_neg c10] at H; exact absurd H (by simp)
     rw [if_pos c10] at H; have c10b0 := decide_eq_true c10; clear c10
     by_cases c11 : (ji9) < (l1.length : Int)
     rotate_left
     ·
      rw [if_neg c11] at H; exact absurd H (by simp)
     rw [if_pos c11] at H; have c11b0 : decide ((ji9) < (l1.length : Int)) = true := decide_eq_true c11; clear c11
     by_cases c12 : x7_1.length < 17592186044416
     rotate_left
     ·
      rw [if_neg c12] at H; exact absurd H (by simp)
     rw [if_pos c12] at H; have LMc12 := aa.mk c12; clear c12; obtain ⟨y427, hy427⟩ : ∃ y_ : List Int, y_ = (x7_1 ++ [rd l1 (ji9)]) := ⟨_, rfl⟩; replace H : (d9.l0 k1 a0 l1 a2 y427 (wrap64 (x8_1 + 1))) = some r := by first | (rw [hy427]; with_reducible exact H) | (have H2_ := (Option.bind_some _ _).symm.trans H; rw [hy427]; with_reducible exact H2_) | (have H2_ := (Option.bind_some _ _).symm.trans H; with_reducible exact H2_) | with_reducible exact H | (rw [hy427]; exact H) | exact H
     have Ny427 := aa.mk hy427; clear hy427; have H' := aa.mk H; clear H; have p426 : 0 ≤ ((ji9) : Int) := of_decide_eq_true (by first | (with_reducible assumption) | assumption); have q426 : (ji9) < (l1.length : Int) := of_decide_eq_true (by first | (with_reducible assumption) | assumption); obtain ⟨ad426, e426, hx426_0⟩ := Kd.lc HR1.out (ji9) p426 q426; cases e426; replace hx426_0 := (HB.out.cell (World.block_lt_of_cell? w _ hx426_0)).trans hx426_0; replace p426 := eq_true p426; replace q426 := eq_true q426
     go_wp2_with (first | ((with_reducible refine sw (b := .append) (xs := #[.tmp 18, .tmp 28]) rfl ?_); at_builtin; refine Kd.Ap (Kd.int .u64) (w0 := w) w.heap.size rfl (.tmp 18) (.tmp 28) 33 24 (.int .u64 0) 8 rfl Tryd.underlying33 info24 rfl (by decide) (by omega) u7 x7_1 (rd l1 (ji9)) [.int .u64 (rd l1 (ji9))] (fun _ => True) (fun _ => False) rfl rfl ?aP (fun _ hk => hk.elim) ?aF ?aO ?aB ?aS ?aL ?_; (case aP => exact rfl); (case aB => exact bel); (case aF => exact (fun _ _ => trivial)); (case aO => exact (kr HO_7)); (case aS => exact (az bel)); (case aL => have := LMc12.out; omega); intro v428 w13 ho hb hg hat; rw [← Ny427.out] at ho; refine ax2 hb ho ?_; clear HB; clear HO_7; intro HB HO429; clear ho hb hg hat))
     go_roundg k1
     case measure => have := HK1.out; omega
     case rel => exact ⟨(y427), (wrap64 (x8_1 + 1)), (by first | rfl | (simp; done) | (simp [*]; done)), H', ⟨by have := HK1.out; omega⟩, ⟨kr HO429⟩, ⟨bel⟩⟩
   ·
    rw [if_neg c7] at H; have c7b0 : decide (0 < (l1.length : Int)) = false := decide_eq_false c7; have c7b1 : decide (0 < l1.length) = false := decide_eq_false (by omega); clear c7
    by_cases c14 : x7_1.length < 17592186044416
    rotate_left
    ·
     rw [if_neg c14] at H; exact absurd H (by simp)
    rw [if_pos c14] at H; have LMc14 := aa.mk c14; clear c14; obtain ⟨y430, hy430⟩ : ∃ y_ : List Int, y_ = (x7_1 ++ [4607182418800017408]) := ⟨_, rfl⟩; replace H : (d9.l0 k1 a0 l1 a2 y430 (wrap64 (x8_1 + 1))) = some r := by first | (rw [hy430]; with_reducible exact H) | (have H2_ := (Option.bind_some _ _).symm.trans H; rw [hy430]; with_reducible exact H2_) | (have H2_ := (Option.bind_some _ _).symm.trans H; with_reducible exact H2_) | with_reducible exact H | (rw [hy430]; exact H) | exact H
    have Ny430 := aa.mk hy430; clear hy430; have H' := aa.mk H; clear H
    go_wp2_with (first | ((with_reducible refine sw (b := .append) (xs := #[.tmp 30, .tmp 31]) rfl ?_); at_builtin; refine Kd.Ap (Kd.int .u64) (w0 := w) w.heap.size rfl (.tmp 30) (.tmp 31) 33 24 (.int .u64 0) 8 rfl Tryd.underlying33 info24 rfl (by decide) (by omega) u7 x7_1 4607182418800017408 [.int .u64 4607182418800017408] (fun _ => True) (fun _ => False) rfl rfl ?aP (fun _ hk => hk.elim) ?aF ?aO ?aB ?aS ?aL ?_; (case aP => exact rfl); (case aB => exact bel); (case aF => exact (fun _ _ => trivial)); (case aO => exact (kr HO_7)); (case aS => exact (az bel)); (case aL => have := LMc14.out; omega); intro v431 w15 ho hb hg hat; rw [← Ny430.out] at ho; refine ax2 hb ho ?_; clear HB; clear HO_7; intro HB HO432; clear ho hb hg hat))
    go_roundg k1
    case measure => have := HK1.out; omega
    case rel => exact ⟨(y430), (wrap64 (x8_1 + 1)), (by first | rfl | (simp; done) | (simp [*]; done)), H', ⟨by have := HK1.out; omega⟩, ⟨kr HO432⟩, ⟨bel⟩⟩
/-! ### pq: function 16 -/
def pq.f (a0 : Int) : Option (Bool) := (wm.f a0).bind fun t433 => (some (decide (t433 < 2047)))
set_option maxHeartbeats 8000000 in
set_option maxRecDepth 100000 in
theorem pq.calls (a0 : Int) (r : Bool) (w : World) (h : pq.f a0 = some r) :
  Calls Tryd.prog 16 #[.int .u64 a0] w fun e w' => e = .returned (.bool r) ∧ dh w w' := by
 have H : ((wm.f a0).bind fun t433 => (some (decide (t433 < 2047)))) = some r := h; clear h; obtain ⟨t433, A2, H⟩ := ob H; (try dsimp -simprocs only at H); obtain rfl := Option.some.inj H; go_enter Tryd.func16, Tryd.ntmps16
 go_wp2_with (first | ((with_reducible refine ag (f := 43) rfl ?_); refine df (some 4) rfl rfl Tryd.func43 (by kernel_rfl) rfl #[.int .u64 a0] rfl ga ?_; (with_reducible refine (wm.calls a0 t433 _ A2.out).mono ?_); rintro e w' ⟨rfl, ⟨nd, rfl⟩⟩; refine ⟨_, rfl, ?_⟩))
 go_ret; exact ⟨by first | rfl | (simp; done) | (simp [*]; done), by repeat (first | exact dh.refl _ | apply dh.step)⟩

/-! ### bv: function 15 -/
mutual
def bv.l0 : Nat → Int → Int → Int → Int → Int → List Int → Option (Bool)
 | 0, _, _, _, _, _, _ => none
 | k + 1, x6, x7, x435000, x435001, x435002, x435003 => if x7 < x6 then (bv.l1 k x7 x6 x7 x435001 0 x435000 x435001 x435002 x435003) else (some true)
def bv.l1 : Nat → Int → Int → Int → Int → Int → Int → Int → Int → List Int → Option (Bool)
 | 0, _, _, _, _, _, _, _, _, _ => none
 | k + 1, x3, x6, x7, x11, x12, x435000, x435001, x435002, x435003 => if x12 < x11 then ((je.f x435000 x435001 x435002 x435003 x3 x12).bind fun t435 => ((pq.f t435).bind fun t436 => (if t436 = true then (bv.l1 k x3 x6 x7 x11 (wrap64 (x12 + 1)) x435000 x435001 x435002 x435003) else (some false)))) else (bv.l0 k x6 (wrap64 (x7 + 1)) x435000 x435001 x435002 x435003)
end
def bv.f (k : Nat) (a0_0 : Int) (a0_1 : Int) (a0_2 : Int) (l0_3 : List Int) : Option (Bool) := bv.l0 k a0_0 0 a0_0 a0_1 a0_2 l0_3
theorem bv.jm : ∀ k, (∀ y0 y1 y2 y3 y4 y5, LeO (bv.l0 k y0 y1 y2 y3 y4 y5) (bv.l0 (k + 1) y0 y1 y2 y3 y4 y5)) ∧ (∀ y0 y1 y2 y3 y4 y5 y6 y7 y8, LeO (bv.l1 k y0 y1 y2 y3 y4 y5 y6 y7 y8) (bv.l1 (k + 1) y0 y1 y2 y3 y4 y5 y6 y7 y8))
 | 0 => ⟨fun _ _ _ _ _ _ r h => by simp [bv.l0] at h, fun _ _ _ _ _ _ _ _ _ r h => by simp [bv.l1] at h⟩
 | k + 1 => by
  obtain ⟨ih0, ih1⟩ := bv.jm k
  refine ⟨?_, ?_⟩ <;> intros <;> (first | unfold bv.l0 | unfold bv.l1) <;>
   repeat' with_reducible first | apply ih0 | apply ih1 | exact LeO.refl _ | exact LeO.none _ | refine LeO.ite ?_ ?_ | refine LeO.bind ?_ (fun _ => ?_)
theorem bv.mono : ∀ a0 a1 a2 a3 k, LeO (bv.f k a0 a1 a2 a3) (bv.f (k + 1) a0 a1 a2 a3) := by
 intro a0 a1 a2 a3 k; obtain ⟨ih0, ih1⟩ := bv.jm k
 unfold bv.f
 repeat' with_reducible first | apply ih0 | apply ih1 | exact LeO.refl _ | exact LeO.none _ | refine LeO.ite ?_ ?_ | refine LeO.bind ?_ (fun _ => ?_)
set_option maxHeartbeats 8000000 in
set_option maxRecDepth 100000 in
theorem bv.calls (k : Nat) (a0_0 : Int) (a0_1 : Int) (a0_2 : Int) (A0_3 : Option Addr) (c0_3 : Nat) (l0_3 : List Int) (r : Bool) (w : World) (hr0_3 : Kd.C (Kd.int .u64) w A0_3 l0_3.length l0_3) (hc0_3 : l0_3.length ≤ c0_3) (h : bv.f k a0_0 a0_1 a0_2 l0_3 = some r) :
  Calls Tryd.prog 15 #[.agg #[.int .i64 a0_0, .int .i64 a0_1, .int .i64 a0_2, .slice A0_3 l0_3.length c0_3]] w fun e w' => e = .returned (.bool r) ∧ Below w.heap.size w w' := by
 have hu35 := Tryd.underlying35; have HR0_3 := aa.mk hr0_3; have HC0_3 := aa.mk hc0_3; clear hr0_3 hc0_3; have HB := aa.mk (Below.refl w.heap.size w); have H : (bv.l0 k a0_0 0 a0_0 a0_1 a0_2 l0_3) = some r := h; clear h; have H' := aa.mk H; clear H; go_enter Tryd.func15, Tryd.ntmps15
 go_wp2_with (first | ((with_reducible refine bq (N := 1) rfl ?_); refine l5 (N := 1) (cs := #[.int .i64 a0_0, .int .i64 a0_1, .int .i64 a0_2, .slice A0_3 l0_3.length c0_3]) (t := 35) ?_; intro gb434 hg w2 hbox hb; refine ax4 (af bel hb) hbox ((ge hg : w.heap.size ≤ gb434)) ((ge hg : w.heap.size ≤ gb434)) ?_; clear HB; intro HB BK434 GW434 GE434; clear hb hbox hg; have ⟨_, _⟩ := cf BK434 0 rfl; have ⟨_, _⟩ := cf BK434 1 rfl; have ⟨_, _⟩ := cf BK434 2 rfl; have ⟨_, _⟩ := cf BK434 3 rfl))
 go_loopg [7] k (fun kq v7 w' => ∃ (x7_1 : Int), v7 = .int .i64 x7_1 ∧ aa (bv.l0 kq a0_0 x7_1 a0_0 a0_1 a0_2 l0_3 = some r) ∧ aa (kq ≤ k) ∧ aa (w'.heap[gb434]? = some (.cells #[.int .i64 a0_0, .int .i64 a0_1, .int .i64 a0_2, (.slice A0_3 l0_3.length c0_3)] 35 (0, 0))) ∧ aa (Below w.heap.size w w'))
 case atStart => exact ⟨(0), (by first | rfl | (simp; done) | (simp [*]; done)), H', ⟨Nat.le_refl _⟩, ⟨kb BK434⟩, ⟨bes⟩⟩
 case round =>
  clear H'
  obtain ⟨x7_1, rfl, HA, HK1, BK434, HB⟩ := hrel; cases gk with
  | zero => exact absurd HA.out (by simp [bv.l0])
  | succ k1 =>
   have H := HA.out; clear HA; simp only [bv.l0] at H
   by_cases c4 : x7_1 < a0_0
   rotate_left
   ·
    rw [if_neg c4] at H; have c4b0 := decide_eq_false c4; clear c4; obtain rfl := Option.some.inj H; go_wp2; go_ret; exact ⟨er, bes⟩

   rw [if_pos c4] at H; have c4b0 := decide_eq_true c4; clear c4; have H' := aa.mk H; clear H; have ⟨_, _⟩ := cf BK434 0 rfl; have ⟨_, _⟩ := cf BK434 1 rfl; have ⟨_, _⟩ := cf BK434 2 rfl; have ⟨_, _⟩ := cf BK434 3 rfl; go_wp2
   go_loopg [12] k1 (fun kq v12 w' => ∃ (x12_2 : Int), v12 = .int .i64 x12_2 ∧ aa (bv.l1 kq x7_1 a0_0 x7_1 a0_1 x12_2 a0_0 a0_1 a0_2 l0_3 = some r) ∧ aa (kq ≤ k1) ∧ aa (w'.heap[gb434]? = some (.cells #[.int .i64 a0_0, .int .i64 a0_1, .int .i64 a0_2, (.slice A0_3 l0_3.length c0_3)] 35 (0, 0))) ∧ aa (Below w.heap.size w w'))
   case atStart => exact ⟨(0), (by first | rfl | (simp; done) | (simp [*]; done)), H', ⟨Nat.le_refl _⟩, ⟨kb BK434⟩, ⟨bes⟩⟩
   case round =>
    clear H'
    obtain ⟨x12_2, rfl, HA, HK2, BK434, HB⟩ := hrel; cases gk with
    | zero => exact absurd HA.out (by simp [bv.l1])
    | succ k2 =>
     have H := HA.out; clear HA; simp only [bv.l1] at H
     by_cases c6 : x12_2 < a0_1
     rotate_left
     ·
      rw [if_neg c6] at H; have c6b0 : decide (x12_2 < a0_1) = false := decide_eq_false c6; clear c6; have H' := aa.mk H; clear H; go_wp2
      go_roundg k2
      case measure => have := HK1.out; have := HK2.out; omega
      case rel => exact ⟨(wrap64 (x7_1 + 1)), (by first | rfl | (simp; done) | (simp [*]; done)), H', ⟨by have := HK1.out; have := HK2.out; omega⟩, ⟨kb BK434⟩, ⟨bes⟩⟩
     rw [if_pos c6] at H; have c6b0 : decide (x12_2 < a0_1) = true := decide_eq_true c6; clear c6; obtain ⟨t435, A7, H⟩ := ob H; (try dsimp -simprocs only at H); obtain ⟨t436, A8, H⟩ := ob H; (try dsimp -simprocs only at H)
     by_cases c9 : t436 = true
     ·
      subst c9; rw [if_pos rfl] at H; have H' := aa.mk H; clear H; have ⟨_, _⟩ := cf BK434 0 rfl; have ⟨_, _⟩ := cf BK434 1 rfl; have ⟨_, _⟩ := cf BK434 2 rfl; have ⟨_, _⟩ := cf BK434 3 rfl
      go_wp2_with (first | ((with_reducible refine ag (f := 19) rfl ?_); refine df (some 18) rfl rfl Tryd.func19 (by kernel_rfl) rfl #[.agg #[.int .i64 a0_0, .int .i64 a0_1, .int .i64 a0_2, .slice A0_3 l0_3.length c0_3], .int .i64 x7_1, .int .i64 x12_2] rfl ga ?_; (with_reducible refine (je.calls a0_0 a0_1 a0_2 _ _ l0_3 x7_1 x12_2 t435 _ ?side1 ?side2 A7.out).mono ?_); (case side1 => repeat (first | exact (Kd.uo HR0_3.out HB.out) | (with_reducible refine Kd.vo ?_ _) | (with_reducible refine Kd.wz ?_ _) | (with_reducible refine Kd.yl ?_))); (case side2 => exact HC0_3.out); rintro e w11 ⟨rfl, hb⟩; refine ⟨_, rfl, ?_⟩; refine ax2 (bb BK434 hb) (af bes hb) ?_; clear BK434; clear HB; intro BK434 HB; (try clear hb)) | ((with_reducible refine ag (f := 16) rfl ?_); refine df (some 19) rfl rfl Tryd.func16 (by kernel_rfl) rfl #[.int .u64 t435] rfl ga ?_; (with_reducible refine (pq.calls t435 true _ A8.out).mono ?_); rintro e w' ⟨rfl, ⟨nd, rfl⟩⟩; refine ⟨_, rfl, ?_⟩))
      go_roundg k2
      case measure => have := HK1.out; have := HK2.out; omega
      case rel => exact ⟨(wrap64 (x12_2 + 1)), (by first | rfl | (simp; done) | (simp [*]; done)), H', ⟨by have := HK1.out; have := HK2.out; omega⟩, ⟨kb BK434⟩, ⟨bes⟩⟩
     ·
      replace c9 := Bool.eq_false_iff.mpr c9; subst c9; rw [if_neg (show ¬ (false = true) by decide)] at H; obtain rfl := Option.some.inj H; have ⟨_, _⟩ := cf BK434 0 rfl; have ⟨_, _⟩ := cf BK434 1 rfl; have ⟨_, _⟩ := cf BK434 2 rfl; have ⟨_, _⟩ := cf BK434 3 rfl
      go_wp2_with (first | ((with_reducible refine ag (f := 19) rfl ?_); refine df (some 18) rfl rfl Tryd.func19 (by kernel_rfl) rfl #[.agg #[.int .i64 a0_0, .int .i64 a0_1, .int .i64 a0_2, .slice A0_3 l0_3.length c0_3], .int .i64 x7_1, .int .i64 x12_2] rfl ga ?_; (with_reducible refine (je.calls a0_0 a0_1 a0_2 _ _ l0_3 x7_1 x12_2 t435 _ ?side1 ?side2 A7.out).mono ?_); (case side1 => repeat (first | exact (Kd.uo HR0_3.out HB.out) | (with_reducible refine Kd.vo ?_ _) | (with_reducible refine Kd.wz ?_ _) | (with_reducible refine Kd.yl ?_))); (case side2 => exact HC0_3.out); rintro e w13 ⟨rfl, hb⟩; refine ⟨_, rfl, ?_⟩; refine ax2 (bb BK434 hb) (af bes hb) ?_; clear BK434; clear HB; intro BK434 HB; (try clear hb)) | ((with_reducible refine ag (f := 16) rfl ?_); refine df (some 19) rfl rfl Tryd.func16 (by kernel_rfl) rfl #[.int .u64 t435] rfl ga ?_; (with_reducible refine (pq.calls t435 false _ A8.out).mono ?_); rintro e w' ⟨rfl, ⟨nd, rfl⟩⟩; refine ⟨_, rfl, ?_⟩))
      go_ret; exact ⟨er, bes⟩
/-! ### ze: function 44 -/
def ze.f (k : Nat) (a0 : Int) : Option (Bool × List Int × Int × Bool) := (pq.f a0).bind fun t438 => (if t438 = true then ((jf.f k a0).bind fun bt439 => ((lh.f a0).bind fun t441 => ((dx.f k t441 (([(bt439.1) % 4294967296, (bt439.1 / 4294967296) % 4294967296] : List Int)) bt439.2).bind fun bt445 => (some (bt445.1, bt445.2.1, bt445.2.2, true))))) else (some (false, ([] : List Int), 0, false)))
theorem ze.mono : ∀ a0 k, LeO (ze.f k a0) (ze.f (k + 1) a0) := by
 intro a0 k
 unfold ze.f
 repeat' with_reducible first | apply dx.mono | apply jf.mono | exact LeO.refl _ | exact LeO.none _ | refine LeO.ite ?_ ?_ | refine LeO.bind ?_ (fun _ => ?_)
set_option maxHeartbeats 8000000 in
set_option maxRecDepth 100000 in
theorem ze.calls (k : Nat) (a0 : Int) (r1 : Bool) (r2 : List Int) (r3 : Int) (r4 : Bool) (w : World) (hT : lw w) (h : ze.f k a0 = some (r1, r2, r3, r4)) :
  Calls Tryd.prog 44 #[.int .u64 a0] w fun e w' => ∃ v1_ : Value, e = .returned (.tuple #[.agg #[.bool r1, v1_, .int .i64 r3], .bool r4]) ∧ Kd.V (Kd.int .u32) 62 w' w.heap.size (fun k_ => (w.heap.size ≤ k_)) v1_ r2 ∧ Below w.heap.size w w' := by
 have hu29 := Tryd.underlying29; have HB := aa.mk (Below.refl w.heap.size w); have H : ((pq.f a0).bind fun t438 => (if t438 = true then ((jf.f k a0).bind fun bt439 => ((lh.f a0).bind fun t441 => ((dx.f k t441 (([(bt439.1) % 4294967296, (bt439.1 / 4294967296) % 4294967296] : List Int)) bt439.2).bind fun bt445 => (some (bt445.1, bt445.2.1, bt445.2.2, true))))) else (some (false, ([] : List Int), 0, false)))) = some (r1, r2, r3, r4) := h; clear h; obtain ⟨t438, A2, H⟩ := ob H; (try dsimp -simprocs only at H)
 by_cases c3 : t438 = true
 rotate_left
 ·
  replace c3 := Bool.eq_false_iff.mpr c3; subst c3; rw [if_neg (show ¬ (false = true) by decide)] at H; simp only [Option.some.injEq, Prod.mk.injEq] at H; obtain ⟨rfl, rfl, rfl, rfl⟩ := H; go_enter Tryd.func44, Tryd.ntmps44
  go_wp2_with (first | ((with_reducible refine bq (N := 2) rfl ?_); refine l5 (N := 2) (cs := #[.bool false, .slice none 0 0, .int .i64 0]) (t := 29) ?_; intro gb437 hg w14 hbox hb; refine ax4 (af bel hb) hbox ((ge hg : w.heap.size ≤ gb437)) ((ge hg : w.heap.size ≤ gb437)) ?_; clear HB; intro HB BK437 GW437 GE437; clear hb hbox hg) | ((with_reducible refine ag (f := 16) rfl ?_); refine df (some 7) rfl rfl Tryd.func16 (by kernel_rfl) rfl #[.int .u64 a0] rfl ga ?_; (with_reducible refine (pq.calls a0 false _ A2.out).mono ?_); rintro e w' ⟨rfl, ⟨nd, rfl⟩⟩; refine ⟨_, rfl, ?_⟩; (try (rw [qm w14]; generalize hq_ : World.drewN w14 _ = w14; have n0_ : aa (w14.heap[gb437]? = some (.cells #[.bool false, .slice none 0 0, .int .i64 0] 29 (0, 0))) := ⟨by rw [← hq_]; exact (kb BK437)⟩; have n1_ : aa (Below w.heap.size w w14) := ⟨by rw [← hq_]; exact bes⟩; clear BK437 HB hq_; have BK437 := n0_; have HB := n1_; clear n0_ n1_)); have ⟨_, _⟩ := cf BK437 0 rfl; have ⟨_, _⟩ := cf BK437 1 rfl; have ⟨_, _⟩ := cf BK437 2 rfl))
  refine bodyPost_ret (ym rfl _ _ gb437 29 #[.bool false, .slice none 0 0, .int .i64 0] (0, 0) _ rfl (bp BK437) Tryd.underlying29 rfl (by kernel_rfl)) rfl ?_; exact ⟨_, er, Kd.Cy _ _ _ _ _, bes⟩

 subst c3; rw [if_pos rfl] at H; obtain ⟨⟨t439, t440⟩, A4, H⟩ := ob H; (try dsimp -simprocs only at H); obtain ⟨t441, A5, H⟩ := ob H; (try dsimp -simprocs only at H); obtain ⟨y442, hy442⟩ : ∃ y_ : List Int, y_ = (([(t439) % 4294967296, (t439 / 4294967296) % 4294967296] : List Int)) := ⟨_, rfl⟩; replace H : ((dx.f k t441 y442 t440).bind fun bt445 => (some (bt445.1, bt445.2.1, bt445.2.2, true))) = some (r1, r2, r3, r4) := by first | (rw [hy442]; with_reducible exact H) | (have H2_ := (Option.bind_some _ _).symm.trans H; rw [hy442]; with_reducible exact H2_) | (have H2_ := (Option.bind_some _ _).symm.trans H; with_reducible exact H2_) | with_reducible exact H | (rw [hy442]; exact H) | exact H
 have Ny442 := aa.mk hy442; clear hy442; obtain ⟨⟨t445, t446, t449⟩, A6, H⟩ := ob H; (try dsimp -simprocs only at H); simp only [Option.some.injEq, Prod.mk.injEq] at H; obtain ⟨rfl, rfl, rfl, rfl⟩ := H; go_enter Tryd.func44, Tryd.ntmps44
 go_wp2_with (first | ((with_reducible refine bq (N := 2) rfl ?_); refine l5 (N := 2) (cs := #[.bool false, .slice none 0 0, .int .i64 0]) (t := 29) ?_; intro gb437 hg w7 hbox hb; refine ax4 (af bel hb) hbox ((ge hg : w.heap.size ≤ gb437)) ((ge hg : w.heap.size ≤ gb437)) ?_; clear HB; intro HB BK437 GW437 GE437; clear hb hbox hg) | ((with_reducible refine ag (f := 16) rfl ?_); refine df (some 7) rfl rfl Tryd.func16 (by kernel_rfl) rfl #[.int .u64 a0] rfl ga ?_; (with_reducible refine (pq.calls a0 true _ A2.out).mono ?_); rintro e w' ⟨rfl, ⟨nd, rfl⟩⟩; refine ⟨_, rfl, ?_⟩; (try (rw [qm w7]; generalize hq_ : World.drewN w7 _ = w7; have n0_ : aa (w7.heap[gb437]? = some (.cells #[.bool false, .slice none 0 0, .int .i64 0] 29 (0, 0))) := ⟨by rw [← hq_]; exact (kb BK437)⟩; have n1_ : aa (Below w.heap.size w w7) := ⟨by rw [← hq_]; exact bes⟩; clear BK437 HB hq_; have BK437 := n0_; have HB := n1_; clear n0_ n1_))) | ((with_reducible refine ag (f := 66) rfl ?_); refine df (some 12) rfl rfl Tryd.func66 (by kernel_rfl) rfl #[.int .u64 a0] rfl ga ?_; (with_reducible refine (jf.calls k a0 t439 t440 _ A4.out).mono ?_); rintro e w' ⟨rfl, ⟨nd, rfl⟩⟩; refine ⟨_, rfl, ?_⟩; (try (rw [qm w7]; generalize hq_ : World.drewN w7 _ = w7; have n0_ : aa (w7.heap[gb437]? = some (.cells #[.bool false, .slice none 0 0, .int .i64 0] 29 (0, 0))) := ⟨by rw [← hq_]; exact (kb BK437)⟩; have n1_ : aa (Below w.heap.size w w7) := ⟨by rw [← hq_]; exact bes⟩; clear BK437 HB hq_; have BK437 := n0_; have HB := n1_; clear n0_ n1_))) | ((with_reducible refine ag (f := 29) rfl ?_); refine df (some 16) rfl rfl Tryd.func29 (by kernel_rfl) rfl #[.int .u64 a0] rfl ga ?_; (with_reducible refine (lh.calls a0 t441 _ A5.out).mono ?_); rintro e w' ⟨rfl, ⟨nd, rfl⟩⟩; refine ⟨_, rfl, ?_⟩; (try (rw [qm w7]; generalize hq_ : World.drewN w7 _ = w7; have n0_ : aa (w7.heap[gb437]? = some (.cells #[.bool false, .slice none 0 0, .int .i64 0] 29 (0, 0))) := ⟨by rw [← hq_]; exact (kb BK437)⟩; have n1_ : aa (Below w.heap.size w w7) := ⟨by rw [← hq_]; exact bes⟩; clear BK437 HB hq_; have BK437 := n0_; have HB := n1_; clear n0_ n1_))) | ((with_reducible refine bq (N := 22) rfl ?_); refine Kd.Cj (Kd.int .u32) _ 62 ?hg (N := 22) ?hd (xs := ([(t439) % 4294967296, (t439 / 4294967296) % 4294967296] : List Int)) (inner := [.int .u32 ((t439) % 4294967296), .int .u32 ((t439 / 4294967296) % 4294967296)]) (ok := fun _ => True) (okp := fun _ => True) ?hr ?hp (fun _ hk => hk) trivial (Below.refl _ _) (Nat.le_refl _) (by simp) ?_; (case hd => rfl); (case hg => rfl); (case hr => first | (go_simp; done) | (go_simp; rfl)); (case hp => exact (qj.one (show Kd.M (Kd.int .u32) _ _ _ ((t439) % 4294967296) [.int .u32 ((t439) % 4294967296)] from rfl) (qj.one (show Kd.M (Kd.int .u32) _ _ _ ((t439 / 4294967296) % 4294967296) [.int .u32 ((t439 / 4294967296) % 4294967296)] from rfl) (qj.none _ _)))); intro v443 w8 ho9 hb hg_ hnew_; clear hg_ hnew_; (first | rw [← Ny442.out] at ho9 | (simp only [Int.reduceToNat] at ho9; rw [← Ny442.out] at ho9)); refine ax3 (Kd.pg (Kd.Cv (M := fun k_ => (w.heap.size ≤ k_)) ho9 (az bes) (fun k_ h_ => h_)) (az bes)) (bb BK437 hb) (af bes hb) ?_; clear BK437; clear HB; intro HO444 BK437 HB; clear hb ho9; obtain ⟨Ao10, co10, eo10⟩ := Kd.mg HO444.out; subst eo10) | ((with_reducible refine ag (f := 32) rfl ?_); refine df (some 24) rfl rfl Tryd.func32 (by kernel_rfl) rfl #[.bool t441, .slice Ao10 y442.length co10, .int .i64 t440] rfl ga ?_; (with_reducible refine (dx.calls k t441 (fun k_ => some k_ = (.slice Ao10 y442.length co10 : Value).ownBlock) _ _ y442 t440 t445 t446 t449 _ ?side1 ?side2 A6.out).mono ?_); (case side1 => exact Kd.R_V (Kd.zo rfl (Kd.fe (HO444.out) BK437.out (by decide)))); (case side2 => first | exact hT | exact lw.drewN hT _ | exact lw.drew hT | exact lw.below hT bes); rintro e w11 ⟨v447, rfl, ho0, hb⟩; refine ⟨_, rfl, ?_⟩; refine ax4 (Kd.cu (kr HO444) hb) (Kd.mf (Kd.bu (ok' := fun k_ => (w.heap.size ≤ k_) ∧ k_ ≠ gb437) ho0 (fun k_ hk_ => ⟨Or.elim hk_ (fun hs_ => ((Kd.fe (HO444.out) BK437.out (by decide)).1 k_ hs_.symm).1.1) (fun hn_ => (Nat.le_trans (az bes) hn_)), Or.elim hk_ (fun hs_ => ((Kd.fe (HO444.out) BK437.out (by decide)).1 k_ hs_.symm).2) (fun hn_ => (fb BK437 k_ hn_))⟩)) (az bes)) (bb BK437 hb) (af bes hb) ?_; clear HO444; clear BK437; clear HB; intro HO444 HO448 BK437 HB; (try clear hb); (try clear ho0); have ⟨_, _⟩ := cf BK437 0 rfl; have ⟨_, _⟩ := cf BK437 1 rfl; have ⟨_, _⟩ := cf BK437 2 rfl; obtain ⟨Ao13, co13, eo13⟩ := Kd.kw HO448.out; subst eo13))
 refine bodyPost_ret (ym rfl _ _ gb437 29 #[.bool t445, .slice Ao13 t446.length co13, .int .i64 t449] (0, 0) _ rfl (bp BK437) Tryd.underlying29 rfl (by kernel_rfl)) rfl ?_; exact ⟨_, er, by (with_reducible repeat (first | apply Kd.fq | apply Kd.fo | apply Kd.gm)); exact Kd.bu (Kd.ja (p := ⟨gb437, 2, none⟩) (Kd.ja (p := ⟨gb437, 1, none⟩) (Kd.ja (p := ⟨gb437, 0, none⟩) (Kd.bu HO448.out (fun k_ hk => (⟨hk, hk.2⟩ : _ ∧ k_ ≠ gb437))) (fun _ hk => hk.2) (.bool t445)) (fun _ hk => hk.2) (.slice Ao13 t446.length co13)) (fun _ hk => hk.2) (.int .i64 t449)) (fun _ hk => hk.1.1), bes⟩
/-! ### ig: function 17 -/
def ig.f (k : Nat) (a0 : Int) : Option (Bool × List Int × Int) := (ze.f k a0).bind fun bt451 => (some (bt451.1, bt451.2.1, bt451.2.2.1))
theorem ig.mono : ∀ a0 k, LeO (ig.f k a0) (ig.f (k + 1) a0) := by
 intro a0 k
 unfold ig.f
 repeat' with_reducible first | apply ze.mono | exact LeO.refl _ | exact LeO.none _ | refine LeO.ite ?_ ?_ | refine LeO.bind ?_ (fun _ => ?_)
set_option maxHeartbeats 8000000 in
set_option maxRecDepth 100000 in
theorem ig.calls (k : Nat) (a0 : Int) (r1 : Bool) (r2 : List Int) (r3 : Int) (w : World) (hT : lw w) (h : ig.f k a0 = some (r1, r2, r3)) :
  Calls Tryd.prog 17 #[.int .u64 a0] w fun e w' => ∃ v1_ : Value, e = .returned (.agg #[.bool r1, v1_, .int .i64 r3]) ∧ Kd.V (Kd.int .u32) 62 w' w.heap.size (fun k_ => (w.heap.size ≤ k_)) v1_ r2 ∧ Below w.heap.size w w' := by
 have hu29 := Tryd.underlying29; have HB := aa.mk (Below.refl w.heap.size w); have H : ((ze.f k a0).bind fun bt451 => (some (bt451.1, bt451.2.1, bt451.2.2.1))) = some (r1, r2, r3) := h; clear h; obtain ⟨⟨t451, t452, t455, t456⟩, A2, H⟩ := ob H; (try dsimp -simprocs only at H); simp only [Option.some.injEq, Prod.mk.injEq] at H; obtain ⟨rfl, rfl, rfl⟩ := H; go_enter Tryd.func17, Tryd.ntmps17
 go_wp2_with (first | ((with_reducible refine bq (N := 2) rfl ?_); refine l5 (N := 2) (cs := #[.bool false, .slice none 0 0, .int .i64 0]) (t := 29) ?_; intro gb450 hg w3 hbox hb; refine ax4 (af bel hb) hbox ((ge hg : w.heap.size ≤ gb450)) ((ge hg : w.heap.size ≤ gb450)) ?_; clear HB; intro HB BK450 GW450 GE450; clear hb hbox hg) | ((with_reducible refine ag (f := 44) rfl ?_); refine df (some 7) rfl rfl Tryd.func44 (by kernel_rfl) rfl #[.int .u64 a0] rfl ga ?_; (with_reducible refine (ze.calls k a0 t451 t452 t455 t456 _ ?side1 A2.out).mono ?_); (case side1 => first | exact hT | exact lw.drewN hT _ | exact lw.drew hT | exact lw.below hT bes); rintro e w4 ⟨v453, rfl, ho0, hb⟩; refine ⟨_, rfl, ?_⟩; refine ax3 (Kd.mf (Kd.bu (ok' := fun k_ => (w.heap.size ≤ k_) ∧ k_ ≠ gb450) ho0 (fun k_ hk_ => ⟨(Nat.le_trans (az bes) hk_), (fb BK450 k_ hk_)⟩)) (az bes)) (bb BK450 hb) (af bes hb) ?_; clear BK450; clear HB; intro HO454 BK450 HB; (try clear hb); (try clear ho0)) | ((with_reducible refine bq (N := 3) rfl ?_); refine l5 (N := 3) (cs := #[.bool false, .slice none 0 0, .int .i64 0]) (t := 29) ?_; intro gb457 hg w5 hbox hb; refine ax8 (Kd.bg (Kd.ik (kv HO454) gb457 (Nat.le_of_eq hg.symm)) hb) (bb BK450 hb) (af bes hb) hbox ((ge hg : w.heap.size ≤ gb457)) ((ge hg : w.heap.size ≤ gb457)) (nl hg BK450) (ng hg BK450) ?_; clear HO454; clear BK450; clear HB; intro HO454 BK450 HB BK457 GW457 GE457 NB450_457 NB457_450; clear hb hbox hg; have hnb6 := NB457_450.out; have hnc6 := NB450_457.out; have ⟨_, _⟩ := cf BK457 0 rfl; have ⟨_, _⟩ := cf BK457 1 rfl; have ⟨_, _⟩ := cf BK457 2 rfl; obtain ⟨Ao8, co8, eo8⟩ := Kd.kw HO454.out; subst eo8; have ⟨_, _⟩ := cf BK450 0 rfl; have ⟨_, _⟩ := cf BK450 1 rfl; have ⟨_, _⟩ := cf BK450 2 rfl))
 refine bodyPost_ret (results_cell_row rfl _ _ gb450 29 #[.bool t451, .slice Ao8 t452.length co8, .int .i64 t455] (0, 0) _ rfl (by (with_reducible repeat (first | refine jk ?_ _ | refine dz ?_ | refine jb ?_ _)); refine yz (cs := #[.bool t451, .slice Ao8 t452.length co8, .int .i64 0]) ?_ 2 _ rfl; (with_reducible repeat (first | refine jk ?_ _ | refine dz ?_ | refine jb ?_ _)); refine yz (cs := #[.bool t451, .slice none 0 0, .int .i64 0]) ?_ 1 _ rfl; (with_reducible repeat (first | refine jk ?_ _ | refine dz ?_ | refine jb ?_ _)); refine yz (cs := #[.bool false, .slice none 0 0, .int .i64 0]) ?_ 0 _ rfl; (with_reducible repeat (first | refine jk ?_ _ | refine dz ?_ | refine jb ?_ _)); refine yj ?_ NB450_457.out _; (with_reducible repeat (first | refine jk ?_ _ | refine dz ?_ | refine jb ?_ _)); refine yj ?_ NB450_457.out _; (with_reducible repeat (first | refine jk ?_ _ | refine dz ?_ | refine jb ?_ _)); refine yj ?_ NB450_457.out _; (with_reducible repeat (first | refine jk ?_ _ | refine dz ?_ | refine jb ?_ _)); exact BK450.out) Tryd.underlying29 rfl (by kernel_rfl)) rfl ?_; exact ⟨_, er, by (with_reducible repeat (first | apply Kd.fq | apply Kd.fo | apply Kd.gm)); exact Kd.bu (Kd.ja (p := ⟨gb450, 2, none⟩) (Kd.ja (p := ⟨gb450, 1, none⟩) (Kd.ja (p := ⟨gb450, 0, none⟩) (Kd.ja (p := ⟨gb457, 2, none⟩) (Kd.ja (p := ⟨gb457, 1, none⟩) (Kd.ja (p := ⟨gb457, 0, none⟩) (Kd.bu (Kd.bu HO454.out (fun k_ hk => (⟨hk, hk.2⟩ : _ ∧ k_ ≠ gb457))) (fun k_ hk => (⟨hk, hk.1.1.2⟩ : _ ∧ k_ ≠ gb450))) (fun _ hk => hk.1.2) (.bool t451)) (fun _ hk => hk.1.2) (.slice Ao8 t452.length co8)) (fun _ hk => hk.1.2) (.int .i64 t455)) (fun _ hk => hk.2) (.bool t451)) (fun _ hk => hk.2) (.slice Ao8 t452.length co8)) (fun _ hk => hk.2) (.int .i64 t455)) (fun _ hk => hk.1.1.1.1), bes⟩

end Go.Proofs.YtnjobojkoaknpaaDoor.F
