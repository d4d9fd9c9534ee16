-- Written by a program of this seat's session (mkprint), out of the translation.
import Derived.Test.YtnjobojkoaknpaaDoorShort
import Derived.Test.YtnjobojkoaknpaaDoorFx0
import Derived.Test.YtnjobojkoaknpaaDoorFx12
namespace Go.Proofs.YtnjobojkoaknpaaDoor.F
open Go.RowKit Go.Proofs.YtnjobojkoaknpaaDoorW.PrintWords Go.Proofs.YtnjobojkoaknpaaDoorW.PrintLast Go.Proofs.YtnjobojkoaknpaaDoorW.PrintMore
attribute [local go_sem] uh uf vv vw qw qp tu ui   -- for this text's walks alone
set_option linter.unusedVariables false
set_option linter.unusedSimpArgs false

/-! ### ny: function 46 -/
def ny.f (k : Nat) (a0_0 : Bool) (l0_1 : List Int) (a0_2 : Int) (a1_0 : Bool) (l1_1 : List Int) (a1_2 : Int) : Option (List Int × List Int × Int) := (lv.f k l0_1 (wrap64 (a0_2 - (mn a0_2 a1_2)))).bind fun t499 => ((iq.f k t499).bind fun t502 => ((lv.f k l1_1 (wrap64 (a1_2 - (mn a0_2 a1_2)))).bind fun t505 => ((iq.f k t505).bind fun t508 => (some (t502, t508, mn a0_2 a1_2)))))
theorem ny.mono : ∀ a0 a1 a2 a3 a4 a5 k, LeO (ny.f k a0 a1 a2 a3 a4 a5) (ny.f (k + 1) a0 a1 a2 a3 a4 a5) := by
 intro a0 a1 a2 a3 a4 a5 k
 unfold ny.f
 repeat' with_reducible first | apply iq.mono | apply lv.mono | exact LeO.refl _ | exact LeO.none _ | refine LeO.ite ?_ ?_ | refine LeO.bind ?_ (fun _ => ?_)
def ny.T3 : Bool × List (List Nat × List Nat) := (true, [([], []), ([], []), ([1], [1]), ([], []), ([3], [3]), ([], []), ([4, 5], [4, 5]), ([2, 6], [2, 6]), ([0, 7, 7], [0, 7]), ([], []), ([], []), ([10], [10]), ([], []), ([12], [12]), ([], []), ([13, 14], [13, 14]), ([11, 15, 8], [11, 15]), ([9, 16, 16], [9, 16]), ([], []), ([8, 17, 0, 1, 2, 3, 4, 5, 6, 7, 8], [8]), ([17, 19, 0, 1, 2, 3, 4, 5, 6, 7, 8, 9, 10, 11, 12, 13, 14, 15, 16, 17, 19], [17]), ([18, 20, 0, 1, 2, 3, 4, 5, 6, 7, 8, 9, 10, 11, 12, 13, 14, 15, 16, 17, 18, 19, 20], [18])])
def ny.B3 : List Nat := [0, 0, 2, 0, 8, 0, 56, 126, 255, 0, 0, 1024, 0, 4096, 0, 28672, 65023, 131071, 0, 262143, 786431, 2097151]
theorem ny.tab3 : xe .any (opsOf Tryd.f46 3) = ny.T3 := by kernel_rfl
theorem ny.bits3 : r9 ny.T3.2 ny.B3 = true := by kernel_rfl
set_option maxHeartbeats 8000000 in
set_option maxRecDepth 100000 in
theorem ny.calls (k : Nat) (a0_0 : Bool) (A0_1 : Option Addr) (c0_1 : Nat) (l0_1 : List Int) (a0_2 : Int) (a1_0 : Bool) (A1_1 : Option Addr) (c1_1 : Nat) (l1_1 : List Int) (a1_2 : Int) (r1 : List Int) (r2 : List Int) (r3 : Int) (w : World) (hr0_1 : Kd.C (Kd.int .u32) w A0_1 l0_1.length l0_1) (hc0_1 : l0_1.length ≤ c0_1) (hr1_1 : Kd.C (Kd.int .u32) w A1_1 l1_1.length l1_1) (hc1_1 : l1_1.length ≤ c1_1) (h : ny.f k a0_0 l0_1 a0_2 a1_0 l1_1 a1_2 = some (r1, r2, r3)) :
  Calls Tryd.prog 46 #[.agg #[.bool a0_0, .slice A0_1 l0_1.length c0_1, .int .i64 a0_2], .agg #[.bool a1_0, .slice A1_1 l1_1.length c1_1, .int .i64 a1_2]] w fun e w' => ∃ v0_ v1_ : Value, e = .returned (.tuple #[v0_, v1_, .int .i64 r3]) ∧ Kd.V (Kd.int .u32) 62 w' w.heap.size (fun k_ => (w.heap.size ≤ k_)) v0_ r1 ∧ Kd.V (Kd.int .u32) 62 w' w.heap.size (fun k_ => (w.heap.size ≤ k_)) v1_ r2 ∧ Below w.heap.size w w' := by
 have hu29 := Tryd.underlying29; have HR0_1 := aa.mk hr0_1; have HC0_1 := aa.mk hc0_1; clear hr0_1 hc0_1; have HR1_1 := aa.mk hr1_1; have HC1_1 := aa.mk hc1_1; clear hr1_1 hc1_1; have HB := aa.mk (Below.refl w.heap.size w); have H : ((lv.f k l0_1 (wrap64 (a0_2 - (mn a0_2 a1_2)))).bind fun t499 => ((iq.f k t499).bind fun t502 => ((lv.f k l1_1 (wrap64 (a1_2 - (mn a0_2 a1_2)))).bind fun t505 => ((iq.f k t505).bind fun t508 => (some (t502, t508, mn a0_2 a1_2)))))) = some (r1, r2, r3) := h; clear h; obtain ⟨ji3, hji3⟩ : ∃ j_ : Int, (mn a0_2 a1_2) = j_ := ⟨_, rfl⟩; replace H : ((lv.f k l0_1 (wrap64 (a0_2 - (ji3)))).bind fun t499 => ((iq.f k t499).bind fun t502 => ((lv.f k l1_1 (wrap64 (a1_2 - (ji3)))).bind fun t505 => ((iq.f k t505).bind fun t508 => (some (t502, t508, ji3)))))) = some (r1, r2, r3) := by first | (rw [hji3] at H; exact H) | (simp only [hji3] at H ⊢; exact H)
 have hji3_ : (if a1_2 < a0_2 then a1_2 else a0_2) = ji3 := hji3; obtain ⟨t499, A4, H⟩ := ob H; (try dsimp -simprocs only at H); obtain ⟨t502, A5, H⟩ := ob H; (try dsimp -simprocs only at H); obtain ⟨t505, A6, H⟩ := ob H; (try dsimp -simprocs only at H); obtain ⟨t508, A7, H⟩ := ob H; (try dsimp -simprocs only at H); simp only [Option.some.injEq, Prod.mk.injEq] at H; obtain ⟨rfl, rfl, rfl⟩ := H; go_enter Tryd.func46, Tryd.ntmps46
 try go_wp2_with (first | ((with_reducible refine bq (N := 2) rfl ?_); refine l5 (N := 2) (cs := #[.bool a0_0, .slice A0_1 l0_1.length c0_1, .int .i64 a0_2]) (t := 29) ?_; intro gb497 hg w8 hbox hb; refine ax4 (af bel hb) hbox ((ge hg : w.heap.size ≤ gb497)) ((ge hg : w.heap.size ≤ gb497)) ?_; clear HB; intro HB BK497 GW497 GE497; clear hb hbox hg) | ((with_reducible refine bq (N := 3) rfl ?_); refine l5 (N := 3) (cs := #[.bool a1_0, .slice A1_1 l1_1.length c1_1, .int .i64 a1_2]) (t := 29) ?_; intro gb498 hg w9 hbox hb; refine ax7 (bb BK497 hb) (af bes hb) hbox ((ge hg : w.heap.size ≤ gb498)) ((ge hg : w.heap.size ≤ gb498)) (nl hg BK497) (ng hg BK497) ?_; clear BK497; clear HB; intro BK497 HB BK498 GW498 GE498 NB497_498 NB498_497; clear hb hbox hg; have hnb10 := NB497_498.out; have hnc10 := NB498_497.out; have ⟨_, _⟩ := cf BK497 0 rfl; have ⟨_, _⟩ := cf BK497 1 rfl; have ⟨_, _⟩ := cf BK497 2 rfl; have ⟨_, _⟩ := cf BK498 0 rfl; have ⟨_, _⟩ := cf BK498 1 rfl; have ⟨_, _⟩ := cf BK498 2 rfl))
 refine ax3 (dz BK497.out) (dz BK498.out) (gy HB.out) ?_; clear BK497 BK498 HB; intro BK497 BK498 HB; refine vk (n := 22) (S := fun w' => w'.cell? ⟨gb497, 0, none⟩ = some (.bool a0_0) ∧ w'.cell? ⟨gb497, 1, none⟩ = some (.slice A0_1 l0_1.length c0_1) ∧ w'.cell? ⟨gb497, 2, none⟩ = some (.int .i64 a0_2) ∧ w'.cell? ⟨gb498, 0, none⟩ = some (.bool a1_0) ∧ w'.cell? ⟨gb498, 1, none⟩ = some (.slice A1_1 l1_1.length c1_1) ∧ w'.cell? ⟨gb498, 2, none⟩ = some (.int .i64 a1_2)) (ds := []) #[false, false, false, false, false, false, false, false, false, false, false, false, false, false, false, false, false, false, false, false, false, false] (by kernel_rfl) rfl rfl ⟨bk BK497 0, bk BK497 1, bk BK497 2, bk BK498 0, bk BK498 1, bk BK498 2⟩ (fun hHeld => ?_); refine qa ny.tab3 ny.bits3 (fun HT_ HW_ => ?_)
 generalize w9.drew = w13 at BK497 BK498 HB hHeld ⊢
 refine pu 0 14 (lm 22 1) HT_ ?_; refine pu 1 15 (lm 22 3) HT_ ?_; refine pu 3 17 (lm 22 11) HT_ ?_; refine pu 5 19 (lm 22 43) HT_ ?_; refine pu 9 23 (lm 22 555) HT_ ?_; refine pu 10 24 (lm 22 1579) HT_ ?_; refine pu 12 26 (lm 22 5675) HT_ ?_; refine pu 14 28 (lm 22 22059) HT_ ?_; refine pu 18 32 (lm 22 284203) HT_ ?_; refine ta 2 16 (lm 22 284207) HT_ HW_ hHeld ?_; refine ta 4 18 (lm 22 284223) HT_ HW_ hHeld ?_; refine pu 6 20 (lm 22 284287) HT_ ?_; refine ta 11 25 (lm 22 286335) HT_ HW_ hHeld ?_; refine ta 13 27 (lm 22 294527) HT_ HW_ hHeld ?_; refine pu 15 29 (lm 22 327295) HT_ ?_; refine on 7 (some 21) (lm 22 327423) HT_ (fun K hK => ?_); refine qd Tryd.func68 (by kernel_rfl) rfl #[.slice A0_1 l0_1.length c0_1, .int .i64 (wrap64 (a0_2 - (ji3)))] (by rfl) rfl rfl (by (try simp only [List.map_toArray, List.map_cons, List.map_nil]); first | done | (simp only [hji3]; rfl) | rfl | (simp only [List.length_drop, List.length_take]; rfl)) ?_
 with_reducible refine (lv.calls k _ _ l0_1 (wrap64 (a0_2 - (ji3))) t499 _ ?side1 ?side2 A4.out).mono ?_
 (case side1 => repeat (first | exact (Kd.uo HR0_1.out HB.out) | (with_reducible refine Kd.vo ?_ _) | (with_reducible refine Kd.wz ?_ _) | (with_reducible refine Kd.yl ?_))); (case side2 => exact HC0_1.out); rintro e w14 ⟨v500, rfl, ho0, hb⟩; refine ⟨_, rfl, ?_⟩; refine ax4 (Kd.pg (Kd.Cv (M := fun k_ => (w.heap.size ≤ k_)) ho0 (az bes) (fun k_ h_ => h_)) (az bes)) (bb BK497 hb) (bb BK498 hb) (af bes hb) ?_; clear BK497 BK498 HB; intro HO501 BK497 BK498 HB; obtain ⟨Ao15, co15, eo15⟩ := Kd.mg HO501.out
 (first | subst eo15 | (injection eo15 with f1_ f2_ f3_; have f4_ := f1_.symm; have f5_ := f3_.symm; clear f1_ f2_ f3_; subst f4_; subst f5_))
 refine hK.out _ _ ⟨bk BK497 0, bk BK497 1, bk BK497 2, bk BK498 0, bk BK498 1, bk BK498 2⟩ (fun hHeld => ?_); clear hK K; refine no 21 ?_; refine on 8 (some 22) (lm 22 327679) HT_ (fun K hK => ?_); refine goesD_ Tryd.func67 (by kernel_rfl) rfl #[.slice Ao15 t499.length co15] (by rfl) rfl rfl ga ?_
 with_reducible refine (iq.calls k (fun k_ => some k_ = (.slice Ao15 t499.length co15 : Value).ownBlock) _ _ t499 t502 _ ?side1 A5.out).mono ?_
 (case side1 => exact Kd.R_V (Kd.zo rfl (Kd.fe (Kd.fe (HO501.out) BK497.out (by decide)) BK498.out (by decide)))); rintro e w16 ⟨v503, rfl, ho0, hb⟩; refine ⟨_, rfl, ?_⟩; refine ax5 (Kd.cu (kr HO501) hb) (Kd.mf (Kd.bu (ok' := fun k_ => (w.heap.size ≤ k_) ∧ k_ ≠ gb497 ∧ k_ ≠ gb498) ho0 (fun k_ hk_ => ⟨Or.elim hk_ (fun hs_ => ((Kd.fe (Kd.fe (HO501.out) BK497.out (by decide)) BK498.out (by decide)).1 k_ hs_.symm).1.1.1) (fun hn_ => (Nat.le_trans (az bes) hn_)), Or.elim hk_ (fun hs_ => ((Kd.fe (Kd.fe (HO501.out) BK497.out (by decide)) BK498.out (by decide)).1 k_ hs_.symm).1.2) (fun hn_ => (fb BK497 k_ hn_)), Or.elim hk_ (fun hs_ => ((Kd.fe (Kd.fe (HO501.out) BK497.out (by decide)) BK498.out (by decide)).1 k_ hs_.symm).2) (fun hn_ => (fb BK498 k_ hn_))⟩)) (az bes)) (bb BK497 hb) (bb BK498 hb) (af bes hb) ?_; clear HO501 BK497 BK498 HB; intro HO501 HO504 BK497 BK498 HB; refine hK.out _ _ ⟨bk BK497 0, bk BK497 1, bk BK497 2, bk BK498 0, bk BK498 1, bk BK498 2⟩ (fun hHeld => ?_); clear hK K; refine no 22 ?_; refine on 16 (some 30) (lm 22 393215) HT_ (fun K hK => ?_); refine qd Tryd.func68 (by kernel_rfl) rfl #[.slice A1_1 l1_1.length c1_1, .int .i64 (wrap64 (a1_2 - (ji3)))] (by rfl) rfl rfl (by (try simp only [List.map_toArray, List.map_cons, List.map_nil]); first | done | (simp only [hji3]; rfl) | rfl | (simp only [List.length_drop, List.length_take]; rfl)) ?_
 with_reducible refine (lv.calls k _ _ l1_1 (wrap64 (a1_2 - (ji3))) t505 _ ?side1 ?side2 A6.out).mono ?_
 (case side1 => repeat (first | exact (Kd.uo HR1_1.out HB.out) | (with_reducible refine Kd.vo ?_ _) | (with_reducible refine Kd.wz ?_ _) | (with_reducible refine Kd.yl ?_))); (case side2 => exact HC1_1.out); rintro e w17 ⟨v506, rfl, ho0, hb⟩; refine ⟨_, rfl, ?_⟩; refine ax6 (Kd.Dn (kr HO501) (Kd.ve ho0) hb) (Kd.ut (kv HO504) (Kd.ve ho0) hb) (Kd.pg (Kd.El (Kd.Cv (M := fun k_ => (w.heap.size ≤ k_)) ho0 (az bes) (fun k_ h_ => h_)) (Kd.qf (kr HO501))) (az bes)) (bb BK497 hb) (bb BK498 hb) (af bes hb) ?_; clear HO501 HO504 BK497 BK498 HB; intro HO501 HO504 HO507 BK497 BK498 HB; obtain ⟨Ao18, co18, eo18⟩ := Kd.mg HO507.out
 (first | subst eo18 | (injection eo18 with f1_ f2_ f3_; have f4_ := f1_.symm; have f5_ := f3_.symm; clear f1_ f2_ f3_; subst f4_; subst f5_))
 refine hK.out _ _ ⟨bk BK497 0, bk BK497 1, bk BK497 2, bk BK498 0, bk BK498 1, bk BK498 2⟩ (fun hHeld => ?_); clear hK K; refine no 30 ?_; refine on 17 (some 31) (lm 22 524287) HT_ (fun K hK => ?_); refine goesD_ Tryd.func67 (by kernel_rfl) rfl #[.slice Ao18 t505.length co18] (by rfl) rfl rfl ga ?_
 with_reducible refine (iq.calls k (fun k_ => some k_ = (.slice Ao18 t505.length co18 : Value).ownBlock) _ _ t505 t508 _ ?side1 A7.out).mono ?_
 (case side1 => exact Kd.R_V (Kd.zo rfl (Kd.fe (Kd.fe (HO507.out) BK497.out (by decide)) BK498.out (by decide)))); rintro e w19 ⟨v509, rfl, ho0, hb⟩; refine ⟨_, rfl, ?_⟩; refine ax7 (Kd.cu (kr HO501) hb) (Kd.bg (kv HO504) hb) (Kd.cu (kr HO507) hb) (Kd.mf (Kd.bu (ok' := fun k_ => (w.heap.size ≤ k_) ∧ some k_ ≠ (.slice Ao15 t499.length co15 : Value).ownBlock ∧ k_ ≠ gb497 ∧ k_ ≠ gb498) ho0 (fun k_ hk_ => ⟨Or.elim hk_ (fun hs_ => ((Kd.fe (Kd.fe (HO507.out) BK497.out (by decide)) BK498.out (by decide)).1 k_ hs_.symm).1.1.1.1) (fun hn_ => (Nat.le_trans (az bes) hn_)), Or.elim hk_ (fun hs_ => ((Kd.fe (Kd.fe (HO507.out) BK497.out (by decide)) BK498.out (by decide)).1 k_ hs_.symm).1.1.2) (fun hn_ => (Kd.fresh' (Kd.qf (kr HO501)) k_ hn_)), Or.elim hk_ (fun hs_ => ((Kd.fe (Kd.fe (HO507.out) BK497.out (by decide)) BK498.out (by decide)).1 k_ hs_.symm).1.2) (fun hn_ => (fb BK497 k_ hn_)), Or.elim hk_ (fun hs_ => ((Kd.fe (Kd.fe (HO507.out) BK497.out (by decide)) BK498.out (by decide)).1 k_ hs_.symm).2) (fun hn_ => (fb BK498 k_ hn_))⟩)) (az bes)) (bb BK497 hb) (bb BK498 hb) (af bes hb) ?_; clear HO501 HO504 HO507 BK497 BK498 HB; intro HO501 HO504 HO507 HO510 BK497 BK498 HB; refine hK.out _ _ ⟨bk BK497 0, bk BK497 1, bk BK497 2, bk BK498 0, bk BK498 1, bk BK498 2⟩ (fun hHeld => ?_); clear hK K; refine no 31 ?_; refine pu 19 4 (lm 22 1048575) HT_ ?_; refine pu 20 5 (lm 22 2097151) HT_ ?_; refine pu 21 6 (lm 22 4194303) HT_ ?_; refine zg (uy HT_.out (by kernel_rfl)) ?_
 try go_wp2
 go_ret3
 exact ⟨_, _, by first | rfl | (simp [gu, gp] <;> rfl) | (simp only [← hji3]; first | rfl | (simp [gu, gp] <;> rfl)) | (simp [*, gu, gp] <;> rfl), by (with_reducible repeat (first | apply Kd.fq | apply Kd.fo | apply Kd.gm)); exact Kd.bu HO504.out (fun _ hk => hk.1.1), by (with_reducible repeat (first | apply Kd.fq | apply Kd.fo | apply Kd.gm)); exact Kd.bu HO510.out (fun _ hk => hk.1), bes⟩

/-! ### l9: function 47 -/
def l9.l0 : Nat → List Int → List Int → Int → Option (Int)
 | 0, _, _, _ => none
 | k + 1, x0, x1, x5 => if x5 ≥ 0 then (if 0 ≤ x5 then (if x5 < (x0.length : Int) then (if x5 < (x1.length : Int) then (if (rd x0 x5) = (rd x1 x5) then (l9.l0 k x0 x1 (wrap64 (x5 - 1))) else (if (rd x0 x5) < (rd x1 x5) then (some (-1)) else (some 1))) else (none)) else (none)) else (none)) else (some 0)
def l9.f (k : Nat) (l0 : List Int) (l1 : List Int) : Option (Int) := if (l0.length : Int) = (l1.length : Int) then (l9.l0 k l0 l1 (wrap64 ((l0.length : Int) - 1))) else (if (l0.length : Int) < (l1.length : Int) then (some (-1)) else (some 1))
theorem l9.jm : ∀ k, (∀ y0 y1 y2, LeO (l9.l0 k y0 y1 y2) (l9.l0 (k + 1) y0 y1 y2))
 | 0 => fun _ _ _ r h => by simp [l9.l0] at h
 | k + 1 => by
  have ih0 := l9.jm k
  ·
   intro y0 y1 y2
   unfold l9.l0
   repeat' with_reducible first | apply ih0 | exact LeO.refl _ | exact LeO.none _ | refine LeO.ite ?_ ?_ | refine LeO.bind ?_ (fun _ => ?_)
theorem l9.mono : ∀ a0 a1 k, LeO (l9.f k a0 a1) (l9.f (k + 1) a0 a1) := by
 intro a0 a1 k; have ih0 := l9.jm k
 unfold l9.f
 repeat' with_reducible first | apply ih0 | exact LeO.refl _ | exact LeO.none _ | refine LeO.ite ?_ ?_ | refine LeO.bind ?_ (fun _ => ?_)
set_option maxHeartbeats 8000000 in
set_option maxRecDepth 100000 in
theorem l9.calls (k : Nat) (A0 : Option Addr) (c0 : Nat) (l0 : List Int) (A1 : Option Addr) (c1 : Nat) (l1 : List Int) (r : Int) (w : World) (hr0 : Kd.C (Kd.int .u32) w A0 l0.length l0) (hc0 : l0.length ≤ c0) (hr1 : Kd.C (Kd.int .u32) w A1 l1.length l1) (hc1 : l1.length ≤ c1) (h : l9.f k l0 l1 = some r) :
  Calls Tryd.prog 47 #[.slice A0 l0.length c0, .slice A1 l1.length c1] w fun e w' => e = .returned (.int .i64 r) ∧ dh w w' := by
 have HR0 := aa.mk hr0; have HC0 := aa.mk hc0; clear hr0 hc0; have HR1 := aa.mk hr1; have HC1 := aa.mk hc1; clear hr1 hc1; have H : (if (l0.length : Int) = (l1.length : Int) then (l9.l0 k l0 l1 (wrap64 ((l0.length : Int) - 1))) else (if (l0.length : Int) < (l1.length : Int) then (some (-1)) else (some 1))) = some r := h; clear h
 by_cases c3 : (l0.length : Int) = (l1.length : Int)
 ·
  rw [if_pos c3] at H; have c3b0 := beq_iff_eq.mpr c3; have c3b1 := bne_eq_false_iff_eq.mpr c3; have c3b2 : (l0.length == l1.length) = true := by first | simpa using c3 | (simp at c3 ⊢; omega)
  clear c3; have H' := aa.mk H; clear H; go_enter Tryd.func47, Tryd.ntmps47; go_wp2
  repeat (go_quiet (fail); try go_wp2)
  go_loopg [5] k (fun kq v5 w' => ∃ (x5_1 : Int), v5 = .int .i64 x5_1 ∧ aa (l9.l0 kq l0 l1 x5_1 = some r) ∧ aa (kq ≤ k) ∧ dh w w')
  case atStart => exact ⟨(wrap64 ((l0.length : Int) - 1)), (by first | rfl | (simp; done) | (simp [*]; done)), H', ⟨Nat.le_refl _⟩, by repeat (first | exact dh.refl _ | apply dh.step)⟩
  case round =>
   clear H'
   obtain ⟨x5_1, rfl, HA, HK1, ⟨m1, rfl⟩⟩ := hrel; cases gk with
   | zero => exact absurd HA.out (by simp [l9.l0])
   | succ k1 =>
    have H := HA.out; clear HA; simp only [l9.l0] at H
    by_cases c4 : x5_1 ≥ 0
    rotate_left
    ·
     rw [if_neg c4] at H; have c4b0 : decide (0 ≤ x5_1) = false := decide_eq_false c4; clear c4; obtain rfl := Option.some.inj H; go_wp2
     repeat (go_quiet (fail); try go_wp2)
     go_ret; exact ⟨by first | rfl | (simp; done) | (simp [*]; done), by repeat (first | exact dh.refl _ | apply dh.step)⟩
    rw [if_pos c4] at H; have c4b0 : decide (0 ≤ x5_1) = true := decide_eq_true c4; clear c4
    by_cases c5 : 0 ≤ x5_1
    rotate_left
    ·
     rw [if_neg c5] at H; exact absurd H (by simp)
    rw [if_pos c5] at H; have c5b0 := decide_eq_true c5; clear c5
    by_cases c6 : x5_1 < (l0.length : Int)
    rotate_left
    ·
     rw [if_neg c6] at H; exact absurd H (by simp)
    rw [if_pos c6] at H; have c6b0 := decide_eq_true c6; clear c6
    by_cases c7 : x5_1 < (l1.length : Int)
    rotate_left
    ·
     rw [if_neg c7] at H; exact absurd H (by simp)
    rw [if_pos c7] at H; have c7b0 := decide_eq_true c7; clear c7
    by_cases c8 : (rd l0 x5_1) = (rd l1 x5_1)
    ·
     rw [if_pos c8] at H; have c8b0 := beq_iff_eq.mpr c8; have c8b1 := bne_eq_false_iff_eq.mpr c8; clear c8; have H' := aa.mk H; clear H; have p511 : 0 ≤ (x5_1 : Int) := of_decide_eq_true (by first | (with_reducible assumption) | assumption); have q511 : x5_1 < (l0.length : Int) := of_decide_eq_true (by first | (with_reducible assumption) | assumption); obtain ⟨ad511, e511, hx511_0⟩ := Kd.lc HR0.out x5_1 p511 q511; cases e511; replace p511 := eq_true p511; replace q511 := eq_true q511; have p512 : 0 ≤ (x5_1 : Int) := of_decide_eq_true (by first | (with_reducible assumption) | assumption); have q512 : x5_1 < (l1.length : Int) := of_decide_eq_true (by first | (with_reducible assumption) | assumption); obtain ⟨ad512, e512, hx512_0⟩ := Kd.lc HR1.out x5_1 p512 q512; cases e512; replace p512 := eq_true p512; replace q512 := eq_true q512; go_wp2
     repeat (go_quiet (fail); try go_wp2)
     go_roundg k1
     case measure => have := HK1.out; omega
     case rel => exact ⟨(wrap64 (x5_1 - 1)), (by first | rfl | (simp; done) | (simp [*]; done)), H', ⟨by have := HK1.out; omega⟩, by repeat (first | exact dh.refl _ | apply dh.step)⟩
    ·
     rw [if_neg c8] at H; have c8b0 := beq_eq_false_iff_ne.mpr c8; have c8b1 := bne_iff_ne.mpr c8
     by_cases c9 : (rd l0 x5_1) < (rd l1 x5_1)
     ·
      rw [if_pos c9] at H; have c9b0 := decide_eq_true c9; clear c9; obtain rfl := Option.some.inj H; have p511 : 0 ≤ (x5_1 : Int) := of_decide_eq_true (by first | (with_reducible assumption) | assumption); have q511 : x5_1 < (l0.length : Int) := of_decide_eq_true (by first | (with_reducible assumption) | assumption); obtain ⟨ad511, e511, hx511_0⟩ := Kd.lc HR0.out x5_1 p511 q511; cases e511; replace p511 := eq_true p511; replace q511 := eq_true q511; have p512 : 0 ≤ (x5_1 : Int) := of_decide_eq_true (by first | (with_reducible assumption) | assumption); have q512 : x5_1 < (l1.length : Int) := of_decide_eq_true (by first | (with_reducible assumption) | assumption); obtain ⟨ad512, e512, hx512_0⟩ := Kd.lc HR1.out x5_1 p512 q512; cases e512; replace p512 := eq_true p512; replace q512 := eq_true q512; have p513 : 0 ≤ (x5_1 : Int) := of_decide_eq_true (by first | (with_reducible assumption) | assumption); have q513 : x5_1 < (l0.length : Int) := of_decide_eq_true (by first | (with_reducible assumption) | assumption); obtain ⟨ad513, e513, hx513_0⟩ := Kd.lc HR0.out x5_1 p513 q513; obtain rfl : ad511 = ad513 := (by injection e513); replace p513 := eq_true p513; replace q513 := eq_true q513; have p514 : 0 ≤ (x5_1 : Int) := of_decide_eq_true (by first | (with_reducible assumption) | assumption); have q514 : x5_1 < (l1.length : Int) := of_decide_eq_true (by first | (with_reducible assumption) | assumption); obtain ⟨ad514, e514, hx514_0⟩ := Kd.lc HR1.out x5_1 p514 q514; obtain rfl : ad512 = ad514 := (by injection e514); replace p514 := eq_true p514; replace q514 := eq_true q514; go_wp2
      repeat (go_quiet (fail); try go_wp2)
      go_ret; exact ⟨by first | rfl | (simp; done) | (simp [*]; done), by repeat (first | exact dh.refl _ | apply dh.step)⟩
     ·
      rw [if_neg c9] at H; have c9b0 := decide_eq_false c9; clear c9; obtain rfl := Option.some.inj H; have p511 : 0 ≤ (x5_1 : Int) := of_decide_eq_true (by first | (with_reducible assumption) | assumption); have q511 : x5_1 < (l0.length : Int) := of_decide_eq_true (by first | (with_reducible assumption) | assumption); obtain ⟨ad511, e511, hx511_0⟩ := Kd.lc HR0.out x5_1 p511 q511; cases e511; replace p511 := eq_true p511; replace q511 := eq_true q511; have p512 : 0 ≤ (x5_1 : Int) := of_decide_eq_true (by first | (with_reducible assumption) | assumption); have q512 : x5_1 < (l1.length : Int) := of_decide_eq_true (by first | (with_reducible assumption) | assumption); obtain ⟨ad512, e512, hx512_0⟩ := Kd.lc HR1.out x5_1 p512 q512; cases e512; replace p512 := eq_true p512; replace q512 := eq_true q512; have p513 : 0 ≤ (x5_1 : Int) := of_decide_eq_true (by first | (with_reducible assumption) | assumption); have q513 : x5_1 < (l0.length : Int) := of_decide_eq_true (by first | (with_reducible assumption) | assumption); obtain ⟨ad513, e513, hx513_0⟩ := Kd.lc HR0.out x5_1 p513 q513; obtain rfl : ad511 = ad513 := (by injection e513); replace p513 := eq_true p513; replace q513 := eq_true q513; have p514 : 0 ≤ (x5_1 : Int) := of_decide_eq_true (by first | (with_reducible assumption) | assumption); have q514 : x5_1 < (l1.length : Int) := of_decide_eq_true (by first | (with_reducible assumption) | assumption); obtain ⟨ad514, e514, hx514_0⟩ := Kd.lc HR1.out x5_1 p514 q514; obtain rfl : ad512 = ad514 := (by injection e514); replace p514 := eq_true p514; replace q514 := eq_true q514; go_wp2
      repeat (go_quiet (fail); try go_wp2)
      go_ret; exact ⟨by first | rfl | (simp; done) | (simp [*]; done), by repeat (first | exact dh.refl _ | apply dh.step)⟩
 ·
  rw [if_neg c3] at H; have c3b0 := beq_eq_false_iff_ne.mpr c3; have c3b1 := bne_iff_ne.mpr c3; have c3b2 : (l0.length == l1.length) = false := by first | simpa using c3 | (simp at c3 ⊢; omega)
  by_cases c10 : (l0.length : Int) < (l1.length : Int)
  ·
   rw [if_pos c10] at H; have c10b0 := decide_eq_true c10; have c10b1 : decide (l0.length < l1.length) = true := decide_eq_true (Int.ofNat_lt.mp c10); clear c10; obtain rfl := Option.some.inj H; go_enter Tryd.func47, Tryd.ntmps47; go_wp2
   repeat (go_quiet (fail); try go_wp2)
   go_ret; exact ⟨by first | rfl | (simp; done) | (simp [*]; done), by repeat (first | exact dh.refl _ | apply dh.step)⟩
  ·
   rw [if_neg c10] at H; have c10b0 := decide_eq_false c10; have c10b1 : decide (l0.length < l1.length) = false := decide_eq_false (fun h => c10 (Int.ofNat_lt.mpr h)); clear c10; obtain rfl := Option.some.inj H; go_enter Tryd.func47, Tryd.ntmps47; go_wp2
   repeat (go_quiet (fail); try go_wp2)
   go_ret; exact ⟨by first | rfl | (simp; done) | (simp [*]; done), by repeat (first | exact dh.refl _ | apply dh.step)⟩

end Go.Proofs.YtnjobojkoaknpaaDoor.F
