-- Written by a program of this seat's session (mkprint), out of the translation.
import Derived.Test.YtnjobojkoaknpaaDoorShort
import Derived.Test.YtnjobojkoaknpaaDoorFx0
import Derived.Test.YtnjobojkoaknpaaDoorFx2
import Derived.Test.YtnjobojkoaknpaaDoorFx8
namespace Go.Proofs.YtnjobojkoaknpaaDoor.F
open Go.RowKit Go.Proofs.YtnjobojkoaknpaaDoorW.PrintWords Go.Proofs.YtnjobojkoaknpaaDoorW.PrintLast Go.Proofs.YtnjobojkoaknpaaDoorW.PrintMore
attribute [local go_sem] max2_int min2_int max_two min_two max_three min_three max_four min_four   -- for this text's walks alone
set_option linter.unusedVariables false
set_option linter.unusedSimpArgs false

/-! ### mat_Matrix_Set: function 31 -/
def mat_Matrix_Set.f (a0_0 : Int) (a0_1 : Int) (a0_2 : Int) (l0_3 : List Int) (a1 : Int) (a2 : Int) (a3 : Int) : Option (List Int) := (mat_Matrix_in.f a0_0 a0_1 a0_2 l0_3 a1 a2).bind fun t343 => (if t343 = true then (if 0 ≤ (wrap64 ((wrap64 (a1 * a0_2)) + a2)) then (if (wrap64 ((wrap64 (a1 * a0_2)) + a2)) < (l0_3.length : Int) then (some (l0_3.set ((wrap64 ((wrap64 (a1 * a0_2)) + a2)) : Int).toNat a3)) else (none)) else (none)) else (some l0_3))
set_option maxHeartbeats 8000000 in
set_option maxRecDepth 100000 in
theorem mat_Matrix_Set.calls (a0_0 : Int) (a0_1 : Int) (a0_2 : Int) (P0_3_ : Nat → Prop) (u9000_ : Value) (l0_3 : List Int) (a1 : Int) (a2 : Int) (a3 : Int) (r : List Int) (w0 w : World) (hB : Below w0.heap.size w0 w) (ho0_3 : Kd.R (Kd.int .u64) 24 w w0.heap.size P0_3_ u9000_ l0_3) (h : mat_Matrix_Set.f a0_0 a0_1 a0_2 l0_3 a1 a2 a3 = some r) :
  Calls Tryd.prog 31 #[.agg #[.int .i64 a0_0, .int .i64 a0_1, .int .i64 a0_2, u9000_], .int .i64 a1, .int .i64 a2, .int .u64 a3] w fun e w' => e = .returned (.tuple #[]) ∧ Kd.R (Kd.int .u64) 24 w' w0.heap.size (fun k_ => (P0_3_ k_ ∨ w.heap.size ≤ k_)) u9000_ r ∧ Below w0.heap.size w0 w' ∧ Kept w w' (fun k_ => P0_3_ k_) := by
 have hu35 := Tryd.underlying35
 have HO0_3 := Aside0.mk (show Kd.R (Kd.int .u64) 24 w w0.heap.size (fun k_ => (P0_3_ k_ ∨ w.heap.size ≤ k_)) u9000_ l0_3 from Kd.R_mono ho0_3 (fun k_ hk => (.inl hk)))
 have HK := Aside0.mk (Kept.refl w (fun k_ => P0_3_ k_))
 have HW0 := Aside0.mk hB.size
 have HB := Aside0.mk hB
 clear hB
 have H : ((mat_Matrix_in.f a0_0 a0_1 a0_2 l0_3 a1 a2).bind fun t343 => (if t343 = true then (if 0 ≤ (wrap64 ((wrap64 (a1 * a0_2)) + a2)) then (if (wrap64 ((wrap64 (a1 * a0_2)) + a2)) < (l0_3.length : Int) then (some (l0_3.set ((wrap64 ((wrap64 (a1 * a0_2)) + a2)) : Int).toNat a3)) else (none)) else (none)) else (some l0_3))) = some r := h
 clear h
 obtain ⟨t343, A50, H⟩ := Option.bind_eq_some_iff.mp H
 (try dsimp -simprocs only at H)
 have A5 := Aside0.mk A50
 clear A50
 by_cases c6 : t343 = true
 rotate_left
 ·
  replace c6 := Bool.eq_false_iff.mpr c6
  subst c6
  rw [if_neg (show ¬ (false = true) by decide)] at H
  obtain rfl := Option.some.inj H
  obtain ⟨Ao18, co18, eo18⟩ := Kd.R_slice HO0_3.out
  subst eo18
  go_enter Tryd.func31, Tryd.ntmps31
  go_wp2_with (first | ((with_reducible refine gate_dst (N := 4) rfl ?_); refine gbox (N := 4) (cs := #[.int .i64 a0_0, .int .i64 a0_1, .int .i64 a0_2, .slice Ao18 l0_3.length co18]) (t := 35) ?_; intro gb342 hg w19 hbox hb; refine ax6 (Kd.R_below (kr HO0_3) hb) (Kept.below (S := (fun k_ => P0_3_ k_)) (by repeat (first | (with_reducible first | exact HK.out | apply Kept.alloc | apply Kept.drewN | apply Kept.drew) | exact HK.out)) hb) (below_step bel hb) hbox ((by rw [hg]; exact (by first | exact HK.out.1 | exact (show Kept w _ (fun k_ => P0_3_ k_) from by repeat (first | (with_reducible first | exact HK.out | apply Kept.alloc | apply Kept.drewN | apply Kept.drew) | exact HK.out)).1) : w.heap.size ≤ gb342)) ((ge hg : w0.heap.size ≤ gb342)) ?_; clear HO0_3; clear HK; clear HB; intro HO0_3 HK HB BK342 GW342 GE342; clear hb hbox hg; have hcz20_0 := bc BK342 0 rfl; have hcz20_1 := bc BK342 1 rfl; have hcz20_2 := bc BK342 2 rfl; have hcz20_3 := bc BK342 3 rfl; have hfz20_0 := blk_frozen BK342.out 0; have hfz20_1 := blk_frozen BK342.out 1; have hfz20_2 := blk_frozen BK342.out 2; have hfz20_3 := blk_frozen BK342.out 3) | ((with_reducible refine gate_callee (f := 45) rfl ?_); refine goesL_ (some 11) rfl rfl Tryd.func45 (by kernel_rfl) rfl #[.agg #[.int .i64 a0_0, .int .i64 a0_1, .int .i64 a0_2, .slice Ao18 l0_3.length co18], .int .i64 a1, .int .i64 a2] rfl ga ?_; (with_reducible refine (mat_Matrix_in.calls a0_0 a0_1 a0_2 _ _ l0_3 a1 a2 false _ ?side1 ?side2 A5.out).mono ?_); (case side1 => exact ks HO0_3); (case side2 => exact (Kd.R_reads' HO0_3.out).2.1); rintro e w21 ⟨rfl, hb⟩; refine ⟨_, rfl, ?_⟩; refine ax4 (Kd.R_below (kr HO0_3) hb) (bb BK342 hb) (Kept.below (S := (fun k_ => P0_3_ k_)) (by repeat (first | (with_reducible first | exact HK.out | apply Kept.alloc | apply Kept.drewN | apply Kept.drew | refine Kept.setCell ?_ (.inr GW342.out) _) | exact HK.out)) hb) (below_step bes hb) ?_; clear HO0_3; clear BK342; clear HK; clear HB; intro HO0_3 BK342 HK HB; (try clear hb)))
  first | go_end0 | ((try simp only [Exit.inBlock, Exit.then]); refine bodyPost_ret (results_none rfl _ _ _) rfl ?_)
  exact ⟨er, kr HO0_3, bes, by repeat (first | (with_reducible first | exact HK.out | apply Kept.alloc | apply Kept.drewN | apply Kept.drew | refine Kept.setCell ?_ (.inr GW342.out) _) | exact HK.out)⟩

 subst c6
 rw [if_pos rfl] at H
 obtain ⟨ji7, hji7⟩ : ∃ j_ : Int, (wrap64 ((wrap64 (a1 * a0_2)) + a2)) = j_ := ⟨_, rfl⟩
 replace H : (if 0 ≤ (ji7) then (if (ji7) < (l0_3.length : Int) then (some (l0_3.set ((ji7) : Int).toNat a3)) else (none)) else (none)) = some r := by first | (rw [hji7] at H; exact H) | (simp only [hji7] at H ⊢; exact H)
 (try rw [hji7] at A5)
 have hji7w : (IntKind.i64.wrap ((wrap64 (a1 * a0_2)) + a2)) = ji7 := (i64_w _).trans hji7
 by_cases c8 : 0 ≤ (ji7)
 rotate_left
 ·
  rw [if_neg c8] at H
  exact absurd H (by simp)
 rw [if_pos c8] at H
 have c8b0 : decide (0 ≤ (ji7)) = true := decide_eq_true c8
 clear c8
 by_cases c9 : (ji7) < (l0_3.length : Int)
 rotate_left
 ·
  rw [if_neg c9] at H
  exact absurd H (by simp)
 rw [if_pos c9] at H
 have c9b0 : decide ((ji7) < (l0_3.length : Int)) = true := decide_eq_true c9
 clear c9
 obtain ⟨y344, hy344⟩ : ∃ y_ : List Int, y_ = (l0_3.set ((ji7) : Int).toNat a3) := ⟨_, rfl⟩
 replace H : (some y344) = some r := by first | (rw [hy344]; with_reducible exact H) | (have H2_ := (Option.bind_some _ _).symm.trans H; rw [hy344]; with_reducible exact H2_) | (have H2_ := (Option.bind_some _ _).symm.trans H; with_reducible exact H2_) | with_reducible exact H | (rw [hy344]; exact H) | exact H
 have Ny344 := Aside0.mk hy344
 clear hy344
 obtain rfl := Option.some.inj H
 obtain ⟨Ao11, co11, eo11⟩ := Kd.R_slice HO0_3.out
 subst eo11
 go_enter Tryd.func31, Tryd.ntmps31
 go_wp2_with (first | ((with_reducible refine gate_dst (N := 4) rfl ?_); refine gbox (N := 4) (cs := #[.int .i64 a0_0, .int .i64 a0_1, .int .i64 a0_2, .slice Ao11 l0_3.length co11]) (t := 35) ?_; intro gb342 hg w12 hbox hb; refine ax6 (Kd.R_below (kr HO0_3) hb) (Kept.below (S := (fun k_ => P0_3_ k_)) (by repeat (first | (with_reducible first | exact HK.out | apply Kept.alloc | apply Kept.drewN | apply Kept.drew) | exact HK.out)) hb) (below_step bel hb) hbox ((by rw [hg]; exact (by first | exact HK.out.1 | exact (show Kept w _ (fun k_ => P0_3_ k_) from by repeat (first | (with_reducible first | exact HK.out | apply Kept.alloc | apply Kept.drewN | apply Kept.drew) | exact HK.out)).1) : w.heap.size ≤ gb342)) ((ge hg : w0.heap.size ≤ gb342)) ?_; clear HO0_3; clear HK; clear HB; intro HO0_3 HK HB BK342 GW342 GE342; clear hb hbox hg; have hcz13_0 := bc BK342 0 rfl; have hcz13_1 := bc BK342 1 rfl; have hcz13_2 := bc BK342 2 rfl; have hcz13_3 := bc BK342 3 rfl; have hfz13_0 := blk_frozen BK342.out 0; have hfz13_1 := blk_frozen BK342.out 1; have hfz13_2 := blk_frozen BK342.out 2; have hfz13_3 := blk_frozen BK342.out 3) | ((with_reducible refine gate_callee (f := 45) rfl ?_); refine goesL_ (some 11) rfl rfl Tryd.func45 (by kernel_rfl) rfl #[.agg #[.int .i64 a0_0, .int .i64 a0_1, .int .i64 a0_2, .slice Ao11 l0_3.length co11], .int .i64 a1, .int .i64 a2] rfl ga ?_; (with_reducible refine (mat_Matrix_in.calls a0_0 a0_1 a0_2 _ _ l0_3 a1 a2 true _ ?side1 ?side2 A5.out).mono ?_); (case side1 => exact ks HO0_3); (case side2 => exact (Kd.R_reads' HO0_3.out).2.1); rintro e w14 ⟨rfl, hb⟩; refine ⟨_, rfl, ?_⟩; refine ax4 (Kd.R_below (kr HO0_3) hb) (bb BK342 hb) (Kept.below (S := (fun k_ => P0_3_ k_)) (by repeat (first | (with_reducible first | exact HK.out | apply Kept.alloc | apply Kept.drewN | apply Kept.drew | refine Kept.setCell ?_ (.inr GW342.out) _) | exact HK.out)) hb) (below_step bes hb) ?_; clear HO0_3; clear BK342; clear HK; clear HB; intro HO0_3 BK342 HK HB; (try clear hb); have hcz15_0 := bc BK342 0 rfl; have hcz15_1 := bc BK342 1 rfl; have hcz15_2 := bc BK342 2 rfl; have hcz15_3 := bc BK342 3 rfl; have hfz15_0 := blk_frozen BK342.out 0; have hfz15_1 := blk_frozen BK342.out 1; have hfz15_2 := blk_frozen BK342.out 2; have hfz15_3 := blk_frozen BK342.out 3; have p10 : 0 ≤ ((ji7) : Int) := of_decide_eq_true (by first | (with_reducible assumption) | assumption); have q10 : ((ji7) : Int) < ((l0_3.length : Int) : Int) := of_decide_eq_true (by first | (with_reducible assumption) | assumption); obtain ⟨go10, co10, eo10, gb10, gl10, cl10, HG10⟩ := Kd.R_form HO0_3.out (by omega); (first | cases eo10 | (injection eo10 with ea_ en_ ec_; (first | subst ea_ | (injection ea_ with ea_; subst ea_)); subst ec_; clear en_)); have GB10 := Aside0.mk gb10; have GG10 := Aside0.mk HG10; clear gb10 gl10 HG10; have HMgo10 := Aside0.mk (show (P0_3_ go10 ∨ w.heap.size ≤ go10) from (HO0_3.out.1 _ rfl)); obtain ⟨hx10_0, hf10_0⟩ := Kd.R_celln 0 HO0_3.out ((ji7) : Int) p10 q10; replace p10 := eq_true p10; replace q10 := eq_true q10; obtain ⟨hy16_, hz16_⟩ := Kd.R_celln 0 HO0_3.out ((ji7) : Int) (of_decide_eq_true (by first | (with_reducible assumption) | assumption)) (of_decide_eq_true (by first | (with_reducible assumption) | assumption)); have HP16 := Kd.R_putg HO0_3.out ((ji7) : Int) a3) | ((with_reducible refine gate_store (t := 24) (p := 21) rfl ?_); refine store_event (t := 24) (p := 21) (v := ?vo_w17) (w1 := (w14.setCell ⟨go10, ((ji7) : Int).toNat, none⟩ (.int .u64 a3))) ?hg ?ho ?hn ?hr ?_; (case ho => rfl); (case hg => rfl); (case hn => rfl); (case hr => first | (go_simp; done) | (go_simp; rfl)); intro w17 hw; have hg : w14.grownBy w17 (some go10) := (by rw [hw]; exact HP16.2); have hp_ : Kd.R (Kd.int .u64) 24 w17 w0.heap.size (fun k_ => (P0_3_ k_ ∨ w.heap.size ≤ k_)) (.slice (some ⟨go10, 0, none⟩) l0_3.length co11) y344 := (by rw [hw, Ny344.out]; exact HP16.1); clear HP16; refine ax4 hp_ (blk_grown (g := gb342) (o := .cells #[.int .i64 a0_0, .int .i64 a0_1, .int .i64 a0_2, .slice (some ⟨go10, 0, none⟩) l0_3.length co11] 35 (0, 0)) (kb BK342) hg (Kd.R_ne HO0_3.out BK342.out (by decide))) ((by rw [hw]; exact below_set (HB.out) GB10.out : Below w0.heap.size w0 w17)) (Kept.of_grown (S := (fun k_ => P0_3_ k_)) hg (by repeat (first | (with_reducible first | exact HK.out | apply Kept.alloc | apply Kept.drewN | apply Kept.drew | refine Kept.setCell ?_ (.inr GW342.out) _) | exact HK.out)) (fun k_ e_ => (HO0_3.out.1 k_ e_))) ?_; clear HO0_3; clear BK342; clear HB; clear HK; intro HO0_3 BK342 HB HK; clear hg hw hp_))
 first | go_end0 | ((try simp only [Exit.inBlock, Exit.then]); refine bodyPost_ret (results_none rfl _ _ _) rfl ?_)
 exact ⟨by first | rfl | (simp [errW_none, errW_some] <;> rfl) | (simp only [← hji7]; first | rfl | (simp [errW_none, errW_some] <;> rfl)) | (simp [*, errW_none, errW_some] <;> rfl), kr HO0_3, bes, by repeat (first | (with_reducible first | exact HK.out | apply Kept.alloc | apply Kept.drewN | apply Kept.drew | refine Kept.setCell ?_ (.inr GW342.out) _) | exact HK.out)⟩
/-! ### gimballaw12_head: function 6 -/
def gimballaw12_head.f (k : Nat)  : Option (Bool) := (mat_New.f 2 2).bind fun bt345 => ((mat_Matrix_Set.f bt345.1 bt345.2.1 bt345.2.2.1 bt345.2.2.2 0 0 4611686018427387904).bind fun t352 => ((mat_Matrix_Set.f bt345.1 bt345.2.1 bt345.2.2.1 t352 0 1 4607182418800017408).bind fun t353 => ((mat_Matrix_Set.f bt345.1 bt345.2.1 bt345.2.2.1 t353 1 1 4616189618054758400).bind fun t354 => ((solve_Trsv_nil.f k bt345.1 bt345.2.1 bt345.2.2.1 t354 true false (([4616189618054758400, 4620693217682128896] : List Int))).bind fun bt358 => (if bt358.2 = 0 then (if (bt358.1.length : Int) = 2 then (if 0 < (bt358.1.length : Int) then (if (rd bt358.1 0) = 4607182418800017408 then (if 1 < (bt358.1.length : Int) then (some ((rd bt358.1 1) == 4611686018427387904)) else (none)) else (some false)) else (none)) else (some false)) else (some false))))))
theorem gimballaw12_head.mono : ∀ k, LeO (gimballaw12_head.f k ) (gimballaw12_head.f (k + 1) ) := by
 intro  k
 unfold gimballaw12_head.f
 repeat' with_reducible first | apply solve_Trsv_nil.mono | exact LeO.refl _ | exact LeO.none _ | refine LeO.ite ?_ ?_ | refine LeO.bind ?_ (fun _ => ?_)
set_option maxHeartbeats 8000000 in
set_option maxRecDepth 100000 in
theorem gimballaw12_head.calls (k : Nat)  (r : Bool) (w : World) (h : gimballaw12_head.f k  = some r) :
  Calls Tryd.prog 6 #[] w fun e w' => e = .returned (.bool r) ∧ Below w.heap.size w w' := by
 have hu35 := Tryd.underlying35
 have HB := Aside0.mk (Below.refl w.heap.size w)
 have H : ((mat_New.f 2 2).bind fun bt345 => ((mat_Matrix_Set.f bt345.1 bt345.2.1 bt345.2.2.1 bt345.2.2.2 0 0 4611686018427387904).bind fun t352 => ((mat_Matrix_Set.f bt345.1 bt345.2.1 bt345.2.2.1 t352 0 1 4607182418800017408).bind fun t353 => ((mat_Matrix_Set.f bt345.1 bt345.2.1 bt345.2.2.1 t353 1 1 4616189618054758400).bind fun t354 => ((solve_Trsv_nil.f k bt345.1 bt345.2.1 bt345.2.2.1 t354 true false (([4616189618054758400, 4620693217682128896] : List Int))).bind fun bt358 => (if bt358.2 = 0 then (if (bt358.1.length : Int) = 2 then (if 0 < (bt358.1.length : Int) then (if (rd bt358.1 0) = 4607182418800017408 then (if 1 < (bt358.1.length : Int) then (some ((rd bt358.1 1) == 4611686018427387904)) else (none)) else (some false)) else (none)) else (some false)) else (some false))))))) = some r := h
 clear h
 obtain ⟨⟨t345, t346, t347, t348⟩, A10, H⟩ := Option.bind_eq_some_iff.mp H
 (try dsimp -simprocs only at H)
 have A1 := Aside0.mk A10
 clear A10
 obtain ⟨t352, A20, H⟩ := Option.bind_eq_some_iff.mp H
 (try dsimp -simprocs only at H)
 have A2 := Aside0.mk A20
 clear A20
 obtain ⟨t353, A30, H⟩ := Option.bind_eq_some_iff.mp H
 (try dsimp -simprocs only at H)
 have A3 := Aside0.mk A30
 clear A30
 obtain ⟨t354, A40, H⟩ := Option.bind_eq_some_iff.mp H
 (try dsimp -simprocs only at H)
 have A4 := Aside0.mk A40
 clear A40
 obtain ⟨y355, hy355⟩ : ∃ y_ : List Int, y_ = (([4616189618054758400, 4620693217682128896] : List Int)) := ⟨_, rfl⟩
 replace H : ((solve_Trsv_nil.f k t345 t346 t347 t354 true false y355).bind fun bt358 => (if bt358.2 = 0 then (if (bt358.1.length : Int) = 2 then (if 0 < (bt358.1.length : Int) then (if (rd bt358.1 0) = 4607182418800017408 then (if 1 < (bt358.1.length : Int) then (some ((rd bt358.1 1) == 4611686018427387904)) else (none)) else (some false)) else (none)) else (some false)) else (some false))) = some r := by first | (rw [hy355]; with_reducible exact H) | (have H2_ := (Option.bind_some _ _).symm.trans H; rw [hy355]; with_reducible exact H2_) | (have H2_ := (Option.bind_some _ _).symm.trans H; with_reducible exact H2_) | with_reducible exact H | (rw [hy355]; exact H) | exact H
 have Ny355 := Aside0.mk hy355
 clear hy355
 obtain ⟨⟨t358, t361⟩, A50, H⟩ := Option.bind_eq_some_iff.mp H
 (try dsimp -simprocs only at H)
 have A5 := Aside0.mk A50
 clear A50
 by_cases c6 : t361 = 0
 rotate_left
 ·
  rw [if_neg c6] at H
  have c6b0 : (t361 == 0) = false := beq_eq_false_iff_ne.mpr c6
  have c6b1 : (t361 != 0) = true := bne_iff_ne.mpr c6
  obtain rfl := Option.some.inj H
  go_enter Tryd.func6, Tryd.ntmps6
  go_wp2_with (first | ((with_reducible refine gate_callee (f := 10) rfl ?_); refine goesL_ (some 4) rfl rfl Tryd.func10 (by kernel_rfl) rfl #[.int .i64 2, .int .i64 2] rfl ga ?_; (with_reducible refine (mat_New.calls 2 2 t345 t346 t347 t348 _ A1.out).mono ?_); rintro e w62 ⟨v349, rfl, ho0, hb⟩; refine ⟨_, rfl, ?_⟩; refine ax2 (Kd.R_lower ho0 (below_size bel)) (below_step bel hb) ?_; clear HB; intro HO350 HB; (try clear hb); (try clear ho0)) | ((with_reducible refine gate_dst (N := 1) rfl ?_); refine gbox (N := 1) (cs := #[.int .i64 0, .int .i64 0, .int .i64 0, .slice none 0 0]) (t := 35) ?_; intro gb351 hg w63 hbox hb; refine ax5 (Kd.R_below (kr HO350) hb) (below_step bel hb) hbox ((ge hg : w.heap.size ≤ gb351)) ((ge hg : w.heap.size ≤ gb351)) ?_; clear HO350; clear HB; intro HO350 HB BK351 GW351 GE351; clear hb hbox hg; have hcz64_0 := bc BK351 0 rfl; have hcz64_1 := bc BK351 1 rfl; have hcz64_2 := bc BK351 2 rfl; have hcz64_3 := bc BK351 3 rfl; have hfz64_0 := blk_frozen BK351.out 0; have hfz64_1 := blk_frozen BK351.out 1; have hfz64_2 := blk_frozen BK351.out 2; have hfz64_3 := blk_frozen BK351.out 3; obtain ⟨Ao65, co65, eo65⟩ := Kd.R_slice HO350.out; subst eo65) | ((with_reducible refine gate_store (t := 35) (p := 1) rfl ?_); refine store_event (t := 35) (p := 1) (v := ?vo_w66) (w1 := ((((w63.setCell ⟨gb351, 0, none⟩ (.int .i64 t345)).setCell ⟨gb351, 1, none⟩ (.int .i64 t346)).setCell ⟨gb351, 2, none⟩ (.int .i64 t347)).setCell ⟨gb351, 3, none⟩ (.slice Ao65 t348.length co65))) ?hg ?ho ?hn ?hr ?_; (case ho => rfl); (case hg => rfl); (case hn => rfl); (case hr => first | (go_simp; done) | (go_simp; rfl)); intro w66 hw; have n0_ : Aside0 (Kd.R (Kd.int .u64) 24 w66 w.heap.size (fun _ => True) (.slice Ao65 t348.length co65) t348) := ⟨(by rw [hw]; exact (by (with_reducible repeat (first | apply Kd.R_alloc | apply Kd.R_drewN | apply Kd.R_drew)); exact Kd.R_mono (Kd.R_far (p := ⟨gb351, 3, none⟩) (Kd.R_far (p := ⟨gb351, 2, none⟩) (Kd.R_far (p := ⟨gb351, 1, none⟩) (Kd.R_far (p := ⟨gb351, 0, none⟩) (Kd.R_types HO350.out BK351.out (by decide)) (fun _ hk => hk.2) (.int .i64 t345)) (fun _ hk => hk.2) (.int .i64 t346)) (fun _ hk => hk.2) (.int .i64 t347)) (fun _ hk => hk.2) (.slice Ao65 t348.length co65)) (fun _ hk => trivial)))⟩; have n1_ : Aside0 (w66.heap[gb351]? = some (.cells #[.int .i64 t345, .int .i64 t346, .int .i64 t347, .slice Ao65 t348.length co65] 35 (0, 0))) := ⟨(by rw [hw]; exact (bp BK351))⟩; have n2_ : Aside0 (Below w.heap.size w w66) := ⟨(by rw [hw]; exact bes)⟩; clear hw; clear HO350; clear BK351; clear HB; have HO350 := n0_; have BK351 := n1_; have HB := n2_; clear n0_ n1_ n2_; have hcz67_0 := bc BK351 0 rfl; have hcz67_1 := bc BK351 1 rfl; have hcz67_2 := bc BK351 2 rfl; have hcz67_3 := bc BK351 3 rfl; have hfz67_0 := blk_frozen BK351.out 0; have hfz67_1 := blk_frozen BK351.out 1; have hfz67_2 := blk_frozen BK351.out 2; have hfz67_3 := blk_frozen BK351.out 3) | ((with_reducible refine gate_callee (f := 31) rfl ?_); refine goesL_ (some 6) rfl rfl Tryd.func31 (by kernel_rfl) rfl #[.agg #[.int .i64 t345, .int .i64 t346, .int .i64 t347, .slice Ao65 t348.length co65], .int .i64 0, .int .i64 0, .int .u64 4611686018427387904] rfl ga ?_; (with_reducible refine (mat_Matrix_Set.calls t345 t346 t347 (fun k_ => some k_ = (.slice Ao65 t348.length co65 : Value).ownBlock) (.slice Ao65 t348.length co65) t348 0 0 4611686018427387904 t352 w _ ?side1 ?side2 A2.out).mono ?_); (case side1 => repeat (first | (with_reducible first | exact HB.out | apply below_alloc | apply pw_below_drewN | apply below_drew1 | refine below_set ?_ GE351.out) | exact HB.out)); (case side2 => exact Kd.R_tight rfl HO350.out); rintro e w68 ⟨rfl, hy0, hb, hkp⟩; refine ⟨_, rfl, ?_⟩; refine ax3 (Kd.R_reok rfl hy0 (fun k_ e_ => HO350.out.1 k_ e_)) (blk_kept (kb BK351) hkp (fun hs_ => (fun e_ => (Kd.R_ne HO350.out BK351.out (by decide)) e_) hs_)) hb ?_; clear HO350; clear BK351; clear HB; intro HO350 BK351 HB; (try clear hb); (try clear hkp); (try clear hy0); have hcz69_0 := bc BK351 0 rfl; have hcz69_1 := bc BK351 1 rfl; have hcz69_2 := bc BK351 2 rfl; have hcz69_3 := bc BK351 3 rfl; have hfz69_0 := blk_frozen BK351.out 0; have hfz69_1 := blk_frozen BK351.out 1; have hfz69_2 := blk_frozen BK351.out 2; have hfz69_3 := blk_frozen BK351.out 3) | ((with_reducible refine gate_callee (f := 31) rfl ?_); refine goesL_ (some 8) rfl rfl Tryd.func31 (by kernel_rfl) rfl #[.agg #[.int .i64 t345, .int .i64 t346, .int .i64 t347, .slice Ao65 t348.length co65], .int .i64 0, .int .i64 1, .int .u64 4607182418800017408] rfl ga ?_; (with_reducible refine (mat_Matrix_Set.calls t345 t346 t347 (fun k_ => some k_ = (.slice Ao65 t348.length co65 : Value).ownBlock) (.slice Ao65 t348.length co65) t352 0 1 4607182418800017408 t353 w _ ?side1 ?side2 A3.out).mono ?_); (case side1 => repeat (first | (with_reducible first | exact HB.out | apply below_alloc | apply pw_below_drewN | apply below_drew1 | refine below_set ?_ GE351.out) | exact HB.out)); (case side2 => exact Kd.R_tight rfl HO350.out); rintro e w70 ⟨rfl, hy0, hb, hkp⟩; refine ⟨_, rfl, ?_⟩; refine ax3 (Kd.R_reok rfl hy0 (fun k_ e_ => HO350.out.1 k_ e_)) (blk_kept (kb BK351) hkp (fun hs_ => (fun e_ => (Kd.R_ne HO350.out BK351.out (by decide)) e_) hs_)) hb ?_; clear HO350; clear BK351; clear HB; intro HO350 BK351 HB; (try clear hb); (try clear hkp); (try clear hy0); have hcz71_0 := bc BK351 0 rfl; have hcz71_1 := bc BK351 1 rfl; have hcz71_2 := bc BK351 2 rfl; have hcz71_3 := bc BK351 3 rfl; have hfz71_0 := blk_frozen BK351.out 0; have hfz71_1 := blk_frozen BK351.out 1; have hfz71_2 := blk_frozen BK351.out 2; have hfz71_3 := blk_frozen BK351.out 3) | ((with_reducible refine gate_callee (f := 31) rfl ?_); refine goesL_ (some 10) rfl rfl Tryd.func31 (by kernel_rfl) rfl #[.agg #[.int .i64 t345, .int .i64 t346, .int .i64 t347, .slice Ao65 t348.length co65], .int .i64 1, .int .i64 1, .int .u64 4616189618054758400] rfl ga ?_; (with_reducible refine (mat_Matrix_Set.calls t345 t346 t347 (fun k_ => some k_ = (.slice Ao65 t348.length co65 : Value).ownBlock) (.slice Ao65 t348.length co65) t353 1 1 4616189618054758400 t354 w _ ?side1 ?side2 A4.out).mono ?_); (case side1 => repeat (first | (with_reducible first | exact HB.out | apply below_alloc | apply pw_below_drewN | apply below_drew1 | refine below_set ?_ GE351.out) | exact HB.out)); (case side2 => exact Kd.R_tight rfl HO350.out); rintro e w72 ⟨rfl, hy0, hb, hkp⟩; refine ⟨_, rfl, ?_⟩; refine ax3 (Kd.R_reok rfl hy0 (fun k_ e_ => HO350.out.1 k_ e_)) (blk_kept (kb BK351) hkp (fun hs_ => (fun e_ => (Kd.R_ne HO350.out BK351.out (by decide)) e_) hs_)) hb ?_; clear HO350; clear BK351; clear HB; intro HO350 BK351 HB; (try clear hb); (try clear hkp); (try clear hy0); have hcz73_0 := bc BK351 0 rfl; have hcz73_1 := bc BK351 1 rfl; have hcz73_2 := bc BK351 2 rfl; have hcz73_3 := bc BK351 3 rfl; have hfz73_0 := blk_frozen BK351.out 0; have hfz73_1 := blk_frozen BK351.out 1; have hfz73_2 := blk_frozen BK351.out 2; have hfz73_3 := blk_frozen BK351.out 3) | ((with_reducible refine gate_dst (N := 13) rfl ?_); refine Kd.R_lit (Kd.int .u64) _ 24 ?hg (N := 13) ?hd (xs := ([4616189618054758400, 4620693217682128896] : List Int)) (inner := [.int .u64 4616189618054758400, .int .u64 4620693217682128896]) (ok := fun _ => True) (okp := fun _ => True) ?hr ?hp (fun _ hk => hk) trivial (Below.refl _ _) (Nat.le_refl _) (by simp) ?_; (case hd => rfl); (case hg => rfl); (case hr => first | (go_simp; done) | (go_simp; rfl)); (case hp => exact (Reps.one (show Kd.M (Kd.int .u64) _ _ _ 4616189618054758400 [.int .u64 4616189618054758400] from rfl) (Reps.one (show Kd.M (Kd.int .u64) _ _ _ 4620693217682128896 [.int .u64 4620693217682128896] from rfl) (Reps.none _ _)))); intro v356 w74 ho75 hb hg_ hnew_; clear hg_ hnew_; (first | rw [← Ny355.out] at ho75 | (simp only [Int.reduceToNat] at ho75; rw [← Ny355.out] at ho75)); refine ax4 (Kd.R_elder' (kr HO350) (Kd.R_base ho75) hb) (Kd.R_lower (Kd.R_new' ho75 (Kd.R_lt (kr HO350))) (below_size bes)) (bb BK351 hb) (below_step bes hb) ?_; clear HO350; clear BK351; clear HB; intro HO350 HO357 BK351 HB; clear hb ho75; obtain ⟨Ao76, co76, eo76⟩ := Kd.R_slice HO357.out; subst eo76) | ((with_reducible refine gate_callee (f := 12) rfl ?_); refine goesL_ (some 14) rfl rfl Tryd.func12 (by kernel_rfl) rfl #[.pointer none, .agg #[.int .i64 t345, .int .i64 t346, .int .i64 t347, .slice Ao65 t354.length co65], .bool true, .bool false, .slice Ao76 y355.length co76] rfl (by (try simp only [List.map_toArray, List.map_cons, List.map_nil]); first | done | (rw [show t354.length = t348.length from (Kd.R_reads' HO350.out).1.symm] <;> rfl) | rfl | (simp only [List.length_drop, List.length_take]; rfl)) ?_; (with_reducible refine (solve_Trsv_nil.calls k  t345 t346 t347 _ _ t354 true false _ _ y355 t358 t361 _ ?side1 ?side2 ?side3 ?side4 A5.out).mono ?_); (case side1 => exact ks HO350); (case side2 => rw [show t354.length = t348.length from (Kd.R_reads' HO350.out).1.symm]; exact (Kd.R_reads' HO350.out).2.1); (case side3 => exact ks HO357); (case side4 => exact (Kd.R_reads' HO357.out).2.1); rintro e w77 ⟨v359, rfl, ho0, hb⟩; refine ⟨_, rfl, ?_⟩; refine ax5 (Kd.R_elder' (kr HO350) (Kd.R_base ho0) hb) (Kd.R_elder' (kr HO357) (Kd.R_base ho0) hb) (Kd.R_lower (Kd.R_new' (Kd.R_new' ho0 (Kd.R_lt (kr HO350))) (Kd.R_lt (kr HO357))) (below_size bes)) (bb BK351 hb) (below_step bes hb) ?_; clear HO350; clear HO357; clear BK351; clear HB; intro HO350 HO357 HO360 BK351 HB; (try clear hb); (try clear ho0)))
  go_ret
  exact ⟨er, bes⟩

 rw [if_pos c6] at H
 have c6b0 : (t361 == 0) = true := beq_iff_eq.mpr c6
 have c6b1 : (t361 != 0) = false := bne_eq_false_iff_eq.mpr c6
 clear c6
 by_cases c7 : (t358.length : Int) = 2
 rotate_left
 ·
  rw [if_neg c7] at H
  have c7b0 : ((t358.length : Int) == 2) = false := beq_eq_false_iff_ne.mpr c7
  have c7b1 : ((t358.length : Int) != 2) = true := bne_iff_ne.mpr c7
  obtain rfl := Option.some.inj H
  go_enter Tryd.func6, Tryd.ntmps6
  go_wp2_with (first | ((with_reducible refine gate_callee (f := 10) rfl ?_); refine goesL_ (some 4) rfl rfl Tryd.func10 (by kernel_rfl) rfl #[.int .i64 2, .int .i64 2] rfl ga ?_; (with_reducible refine (mat_New.calls 2 2 t345 t346 t347 t348 _ A1.out).mono ?_); rintro e w45 ⟨v349, rfl, ho0, hb⟩; refine ⟨_, rfl, ?_⟩; refine ax2 (Kd.R_lower ho0 (below_size bel)) (below_step bel hb) ?_; clear HB; intro HO350 HB; (try clear hb); (try clear ho0)) | ((with_reducible refine gate_dst (N := 1) rfl ?_); refine gbox (N := 1) (cs := #[.int .i64 0, .int .i64 0, .int .i64 0, .slice none 0 0]) (t := 35) ?_; intro gb351 hg w46 hbox hb; refine ax5 (Kd.R_below (kr HO350) hb) (below_step bel hb) hbox ((ge hg : w.heap.size ≤ gb351)) ((ge hg : w.heap.size ≤ gb351)) ?_; clear HO350; clear HB; intro HO350 HB BK351 GW351 GE351; clear hb hbox hg; have hcz47_0 := bc BK351 0 rfl; have hcz47_1 := bc BK351 1 rfl; have hcz47_2 := bc BK351 2 rfl; have hcz47_3 := bc BK351 3 rfl; have hfz47_0 := blk_frozen BK351.out 0; have hfz47_1 := blk_frozen BK351.out 1; have hfz47_2 := blk_frozen BK351.out 2; have hfz47_3 := blk_frozen BK351.out 3; obtain ⟨Ao48, co48, eo48⟩ := Kd.R_slice HO350.out; subst eo48) | ((with_reducible refine gate_store (t := 35) (p := 1) rfl ?_); refine store_event (t := 35) (p := 1) (v := ?vo_w49) (w1 := ((((w46.setCell ⟨gb351, 0, none⟩ (.int .i64 t345)).setCell ⟨gb351, 1, none⟩ (.int .i64 t346)).setCell ⟨gb351, 2, none⟩ (.int .i64 t347)).setCell ⟨gb351, 3, none⟩ (.slice Ao48 t348.length co48))) ?hg ?ho ?hn ?hr ?_; (case ho => rfl); (case hg => rfl); (case hn => rfl); (case hr => first | (go_simp; done) | (go_simp; rfl)); intro w49 hw; have n0_ : Aside0 (Kd.R (Kd.int .u64) 24 w49 w.heap.size (fun _ => True) (.slice Ao48 t348.length co48) t348) := ⟨(by rw [hw]; exact (by (with_reducible repeat (first | apply Kd.R_alloc | apply Kd.R_drewN | apply Kd.R_drew)); exact Kd.R_mono (Kd.R_far (p := ⟨gb351, 3, none⟩) (Kd.R_far (p := ⟨gb351, 2, none⟩) (Kd.R_far (p := ⟨gb351, 1, none⟩) (Kd.R_far (p := ⟨gb351, 0, none⟩) (Kd.R_types HO350.out BK351.out (by decide)) (fun _ hk => hk.2) (.int .i64 t345)) (fun _ hk => hk.2) (.int .i64 t346)) (fun _ hk => hk.2) (.int .i64 t347)) (fun _ hk => hk.2) (.slice Ao48 t348.length co48)) (fun _ hk => trivial)))⟩; have n1_ : Aside0 (w49.heap[gb351]? = some (.cells #[.int .i64 t345, .int .i64 t346, .int .i64 t347, .slice Ao48 t348.length co48] 35 (0, 0))) := ⟨(by rw [hw]; exact (bp BK351))⟩; have n2_ : Aside0 (Below w.heap.size w w49) := ⟨(by rw [hw]; exact bes)⟩; clear hw; clear HO350; clear BK351; clear HB; have HO350 := n0_; have BK351 := n1_; have HB := n2_; clear n0_ n1_ n2_; have hcz50_0 := bc BK351 0 rfl; have hcz50_1 := bc BK351 1 rfl; have hcz50_2 := bc BK351 2 rfl; have hcz50_3 := bc BK351 3 rfl; have hfz50_0 := blk_frozen BK351.out 0; have hfz50_1 := blk_frozen BK351.out 1; have hfz50_2 := blk_frozen BK351.out 2; have hfz50_3 := blk_frozen BK351.out 3) | ((with_reducible refine gate_callee (f := 31) rfl ?_); refine goesL_ (some 6) rfl rfl Tryd.func31 (by kernel_rfl) rfl #[.agg #[.int .i64 t345, .int .i64 t346, .int .i64 t347, .slice Ao48 t348.length co48], .int .i64 0, .int .i64 0, .int .u64 4611686018427387904] rfl ga ?_; (with_reducible refine (mat_Matrix_Set.calls t345 t346 t347 (fun k_ => some k_ = (.slice Ao48 t348.length co48 : Value).ownBlock) (.slice Ao48 t348.length co48) t348 0 0 4611686018427387904 t352 w _ ?side1 ?side2 A2.out).mono ?_); (case side1 => repeat (first | (with_reducible first | exact HB.out | apply below_alloc | apply pw_below_drewN | apply below_drew1 | refine below_set ?_ GE351.out) | exact HB.out)); (case side2 => exact Kd.R_tight rfl HO350.out); rintro e w51 ⟨rfl, hy0, hb, hkp⟩; refine ⟨_, rfl, ?_⟩; refine ax3 (Kd.R_reok rfl hy0 (fun k_ e_ => HO350.out.1 k_ e_)) (blk_kept (kb BK351) hkp (fun hs_ => (fun e_ => (Kd.R_ne HO350.out BK351.out (by decide)) e_) hs_)) hb ?_; clear HO350; clear BK351; clear HB; intro HO350 BK351 HB; (try clear hb); (try clear hkp); (try clear hy0); have hcz52_0 := bc BK351 0 rfl; have hcz52_1 := bc BK351 1 rfl; have hcz52_2 := bc BK351 2 rfl; have hcz52_3 := bc BK351 3 rfl; have hfz52_0 := blk_frozen BK351.out 0; have hfz52_1 := blk_frozen BK351.out 1; have hfz52_2 := blk_frozen BK351.out 2; have hfz52_3 := blk_frozen BK351.out 3) | ((with_reducible refine gate_callee (f := 31) rfl ?_); refine goesL_ (some 8) rfl rfl Tryd.func31 (by kernel_rfl) rfl #[.agg #[.int .i64 t345, .int .i64 t346, .int .i64 t347, .slice Ao48 t348.length co48], .int .i64 0, .int .i64 1, .int .u64 4607182418800017408] rfl ga ?_; (with_reducible refine (mat_Matrix_Set.calls t345 t346 t347 (fun k_ => some k_ = (.slice Ao48 t348.length co48 : Value).ownBlock) (.slice Ao48 t348.length co48) t352 0 1 4607182418800017408 t353 w _ ?side1 ?side2 A3.out).mono ?_); (case side1 => repeat (first | (with_reducible first | exact HB.out | apply below_alloc | apply pw_below_drewN | apply below_drew1 | refine below_set ?_ GE351.out) | exact HB.out)); (case side2 => exact Kd.R_tight rfl HO350.out); rintro e w53 ⟨rfl, hy0, hb, hkp⟩; refine ⟨_, rfl, ?_⟩; refine ax3 (Kd.R_reok rfl hy0 (fun k_ e_ => HO350.out.1 k_ e_)) (blk_kept (kb BK351) hkp (fun hs_ => (fun e_ => (Kd.R_ne HO350.out BK351.out (by decide)) e_) hs_)) hb ?_; clear HO350; clear BK351; clear HB; intro HO350 BK351 HB; (try clear hb); (try clear hkp); (try clear hy0); have hcz54_0 := bc BK351 0 rfl; have hcz54_1 := bc BK351 1 rfl; have hcz54_2 := bc BK351 2 rfl; have hcz54_3 := bc BK351 3 rfl; have hfz54_0 := blk_frozen BK351.out 0; have hfz54_1 := blk_frozen BK351.out 1; have hfz54_2 := blk_frozen BK351.out 2; have hfz54_3 := blk_frozen BK351.out 3) | ((with_reducible refine gate_callee (f := 31) rfl ?_); refine goesL_ (some 10) rfl rfl Tryd.func31 (by kernel_rfl) rfl #[.agg #[.int .i64 t345, .int .i64 t346, .int .i64 t347, .slice Ao48 t348.length co48], .int .i64 1, .int .i64 1, .int .u64 4616189618054758400] rfl ga ?_; (with_reducible refine (mat_Matrix_Set.calls t345 t346 t347 (fun k_ => some k_ = (.slice Ao48 t348.length co48 : Value).ownBlock) (.slice Ao48 t348.length co48) t353 1 1 4616189618054758400 t354 w _ ?side1 ?side2 A4.out).mono ?_); (case side1 => repeat (first | (with_reducible first | exact HB.out | apply below_alloc | apply pw_below_drewN | apply below_drew1 | refine below_set ?_ GE351.out) | exact HB.out)); (case side2 => exact Kd.R_tight rfl HO350.out); rintro e w55 ⟨rfl, hy0, hb, hkp⟩; refine ⟨_, rfl, ?_⟩; refine ax3 (Kd.R_reok rfl hy0 (fun k_ e_ => HO350.out.1 k_ e_)) (blk_kept (kb BK351) hkp (fun hs_ => (fun e_ => (Kd.R_ne HO350.out BK351.out (by decide)) e_) hs_)) hb ?_; clear HO350; clear BK351; clear HB; intro HO350 BK351 HB; (try clear hb); (try clear hkp); (try clear hy0); have hcz56_0 := bc BK351 0 rfl; have hcz56_1 := bc BK351 1 rfl; have hcz56_2 := bc BK351 2 rfl; have hcz56_3 := bc BK351 3 rfl; have hfz56_0 := blk_frozen BK351.out 0; have hfz56_1 := blk_frozen BK351.out 1; have hfz56_2 := blk_frozen BK351.out 2; have hfz56_3 := blk_frozen BK351.out 3) | ((with_reducible refine gate_dst (N := 13) rfl ?_); refine Kd.R_lit (Kd.int .u64) _ 24 ?hg (N := 13) ?hd (xs := ([4616189618054758400, 4620693217682128896] : List Int)) (inner := [.int .u64 4616189618054758400, .int .u64 4620693217682128896]) (ok := fun _ => True) (okp := fun _ => True) ?hr ?hp (fun _ hk => hk) trivial (Below.refl _ _) (Nat.le_refl _) (by simp) ?_; (case hd => rfl); (case hg => rfl); (case hr => first | (go_simp; done) | (go_simp; rfl)); (case hp => exact (Reps.one (show Kd.M (Kd.int .u64) _ _ _ 4616189618054758400 [.int .u64 4616189618054758400] from rfl) (Reps.one (show Kd.M (Kd.int .u64) _ _ _ 4620693217682128896 [.int .u64 4620693217682128896] from rfl) (Reps.none _ _)))); intro v356 w57 ho58 hb hg_ hnew_; clear hg_ hnew_; (first | rw [← Ny355.out] at ho58 | (simp only [Int.reduceToNat] at ho58; rw [← Ny355.out] at ho58)); refine ax4 (Kd.R_elder' (kr HO350) (Kd.R_base ho58) hb) (Kd.R_lower (Kd.R_new' ho58 (Kd.R_lt (kr HO350))) (below_size bes)) (bb BK351 hb) (below_step bes hb) ?_; clear HO350; clear BK351; clear HB; intro HO350 HO357 BK351 HB; clear hb ho58; obtain ⟨Ao59, co59, eo59⟩ := Kd.R_slice HO357.out; subst eo59) | ((with_reducible refine gate_callee (f := 12) rfl ?_); refine goesL_ (some 14) rfl rfl Tryd.func12 (by kernel_rfl) rfl #[.pointer none, .agg #[.int .i64 t345, .int .i64 t346, .int .i64 t347, .slice Ao48 t354.length co48], .bool true, .bool false, .slice Ao59 y355.length co59] rfl (by (try simp only [List.map_toArray, List.map_cons, List.map_nil]); first | done | (rw [show t354.length = t348.length from (Kd.R_reads' HO350.out).1.symm] <;> rfl) | rfl | (simp only [List.length_drop, List.length_take]; rfl)) ?_; (with_reducible refine (solve_Trsv_nil.calls k  t345 t346 t347 _ _ t354 true false _ _ y355 t358 t361 _ ?side1 ?side2 ?side3 ?side4 A5.out).mono ?_); (case side1 => exact ks HO350); (case side2 => rw [show t354.length = t348.length from (Kd.R_reads' HO350.out).1.symm]; exact (Kd.R_reads' HO350.out).2.1); (case side3 => exact ks HO357); (case side4 => exact (Kd.R_reads' HO357.out).2.1); rintro e w60 ⟨v359, rfl, ho0, hb⟩; refine ⟨_, rfl, ?_⟩; refine ax5 (Kd.R_elder' (kr HO350) (Kd.R_base ho0) hb) (Kd.R_elder' (kr HO357) (Kd.R_base ho0) hb) (Kd.R_lower (Kd.R_new' (Kd.R_new' ho0 (Kd.R_lt (kr HO350))) (Kd.R_lt (kr HO357))) (below_size bes)) (bb BK351 hb) (below_step bes hb) ?_; clear HO350; clear HO357; clear BK351; clear HB; intro HO350 HO357 HO360 BK351 HB; (try clear hb); (try clear ho0); obtain ⟨Ao61, co61, eo61⟩ := Kd.R_slice HO360.out; subst eo61))
  go_ret
  exact ⟨er, bes⟩
 rw [if_pos c7] at H
 have c7b0 : ((t358.length : Int) == 2) = true := beq_iff_eq.mpr c7
 have c7b1 : ((t358.length : Int) != 2) = false := bne_eq_false_iff_eq.mpr c7
 clear c7
 by_cases c8 : 0 < (t358.length : Int)
 rotate_left
 ·
  rw [if_neg c8] at H
  exact absurd H (by simp)
 rw [if_pos c8] at H
 have c8b0 : decide (0 < (t358.length : Int)) = true := decide_eq_true c8
 have c8b1 : decide (0 < t358.length) = true := decide_eq_true (by omega)
 clear c8
 by_cases c9 : (rd t358 0) = 4607182418800017408
 rotate_left
 ·
  rw [if_neg c9] at H
  have c9b0 : ((rd t358 0) == 4607182418800017408) = false := beq_eq_false_iff_ne.mpr c9
  have c9b1 : ((rd t358 0) != 4607182418800017408) = true := bne_iff_ne.mpr c9
  obtain rfl := Option.some.inj H
  go_enter Tryd.func6, Tryd.ntmps6
  go_wp2_with (first | ((with_reducible refine gate_callee (f := 10) rfl ?_); refine goesL_ (some 4) rfl rfl Tryd.func10 (by kernel_rfl) rfl #[.int .i64 2, .int .i64 2] rfl ga ?_; (with_reducible refine (mat_New.calls 2 2 t345 t346 t347 t348 _ A1.out).mono ?_); rintro e w28 ⟨v349, rfl, ho0, hb⟩; refine ⟨_, rfl, ?_⟩; refine ax2 (Kd.R_lower ho0 (below_size bel)) (below_step bel hb) ?_; clear HB; intro HO350 HB; (try clear hb); (try clear ho0)) | ((with_reducible refine gate_dst (N := 1) rfl ?_); refine gbox (N := 1) (cs := #[.int .i64 0, .int .i64 0, .int .i64 0, .slice none 0 0]) (t := 35) ?_; intro gb351 hg w29 hbox hb; refine ax5 (Kd.R_below (kr HO350) hb) (below_step bel hb) hbox ((ge hg : w.heap.size ≤ gb351)) ((ge hg : w.heap.size ≤ gb351)) ?_; clear HO350; clear HB; intro HO350 HB BK351 GW351 GE351; clear hb hbox hg; have hcz30_0 := bc BK351 0 rfl; have hcz30_1 := bc BK351 1 rfl; have hcz30_2 := bc BK351 2 rfl; have hcz30_3 := bc BK351 3 rfl; have hfz30_0 := blk_frozen BK351.out 0; have hfz30_1 := blk_frozen BK351.out 1; have hfz30_2 := blk_frozen BK351.out 2; have hfz30_3 := blk_frozen BK351.out 3; obtain ⟨Ao31, co31, eo31⟩ := Kd.R_slice HO350.out; subst eo31) | ((with_reducible refine gate_store (t := 35) (p := 1) rfl ?_); refine store_event (t := 35) (p := 1) (v := ?vo_w32) (w1 := ((((w29.setCell ⟨gb351, 0, none⟩ (.int .i64 t345)).setCell ⟨gb351, 1, none⟩ (.int .i64 t346)).setCell ⟨gb351, 2, none⟩ (.int .i64 t347)).setCell ⟨gb351, 3, none⟩ (.slice Ao31 t348.length co31))) ?hg ?ho ?hn ?hr ?_; (case ho => rfl); (case hg => rfl); (case hn => rfl); (case hr => first | (go_simp; done) | (go_simp; rfl)); intro w32 hw; have n0_ : Aside0 (Kd.R (Kd.int .u64) 24 w32 w.heap.size (fun _ => True) (.slice Ao31 t348.length co31) t348) := ⟨(by rw [hw]; exact (by (with_reducible repeat (first | apply Kd.R_alloc | apply Kd.R_drewN | apply Kd.R_drew)); exact Kd.R_mono (Kd.R_far (p := ⟨gb351, 3, none⟩) (Kd.R_far (p := ⟨gb351, 2, none⟩) (Kd.R_far (p := ⟨gb351, 1, none⟩) (Kd.R_far (p := ⟨gb351, 0, none⟩) (Kd.R_types HO350.out BK351.out (by decide)) (fun _ hk => hk.2) (.int .i64 t345)) (fun _ hk => hk.2) (.int .i64 t346)) (fun _ hk => hk.2) (.int .i64 t347)) (fun _ hk => hk.2) (.slice Ao31 t348.length co31)) (fun _ hk => trivial)))⟩; have n1_ : Aside0 (w32.heap[gb351]? = some (.cells #[.int .i64 t345, .int .i64 t346, .int .i64 t347, .slice Ao31 t348.length co31] 35 (0, 0))) := ⟨(by rw [hw]; exact (bp BK351))⟩; have n2_ : Aside0 (Below w.heap.size w w32) := ⟨(by rw [hw]; exact bes)⟩; clear hw; clear HO350; clear BK351; clear HB; have HO350 := n0_; have BK351 := n1_; have HB := n2_; clear n0_ n1_ n2_; have hcz33_0 := bc BK351 0 rfl; have hcz33_1 := bc BK351 1 rfl; have hcz33_2 := bc BK351 2 rfl; have hcz33_3 := bc BK351 3 rfl; have hfz33_0 := blk_frozen BK351.out 0; have hfz33_1 := blk_frozen BK351.out 1; have hfz33_2 := blk_frozen BK351.out 2; have hfz33_3 := blk_frozen BK351.out 3) | ((with_reducible refine gate_callee (f := 31) rfl ?_); refine goesL_ (some 6) rfl rfl Tryd.func31 (by kernel_rfl) rfl #[.agg #[.int .i64 t345, .int .i64 t346, .int .i64 t347, .slice Ao31 t348.length co31], .int .i64 0, .int .i64 0, .int .u64 4611686018427387904] rfl ga ?_; (with_reducible refine (mat_Matrix_Set.calls t345 t346 t347 (fun k_ => some k_ = (.slice Ao31 t348.length co31 : Value).ownBlock) (.slice Ao31 t348.length co31) t348 0 0 4611686018427387904 t352 w _ ?side1 ?side2 A2.out).mono ?_); (case side1 => repeat (first | (with_reducible first | exact HB.out | apply below_alloc | apply pw_below_drewN | apply below_drew1 | refine below_set ?_ GE351.out) | exact HB.out)); (case side2 => exact Kd.R_tight rfl HO350.out); rintro e w34 ⟨rfl, hy0, hb, hkp⟩; refine ⟨_, rfl, ?_⟩; refine ax3 (Kd.R_reok rfl hy0 (fun k_ e_ => HO350.out.1 k_ e_)) (blk_kept (kb BK351) hkp (fun hs_ => (fun e_ => (Kd.R_ne HO350.out BK351.out (by decide)) e_) hs_)) hb ?_; clear HO350; clear BK351; clear HB; intro HO350 BK351 HB; (try clear hb); (try clear hkp); (try clear hy0); have hcz35_0 := bc BK351 0 rfl; have hcz35_1 := bc BK351 1 rfl; have hcz35_2 := bc BK351 2 rfl; have hcz35_3 := bc BK351 3 rfl; have hfz35_0 := blk_frozen BK351.out 0; have hfz35_1 := blk_frozen BK351.out 1; have hfz35_2 := blk_frozen BK351.out 2; have hfz35_3 := blk_frozen BK351.out 3) | ((with_reducible refine gate_callee (f := 31) rfl ?_); refine goesL_ (some 8) rfl rfl Tryd.func31 (by kernel_rfl) rfl #[.agg #[.int .i64 t345, .int .i64 t346, .int .i64 t347, .slice Ao31 t348.length co31], .int .i64 0, .int .i64 1, .int .u64 4607182418800017408] rfl ga ?_; (with_reducible refine (mat_Matrix_Set.calls t345 t346 t347 (fun k_ => some k_ = (.slice Ao31 t348.length co31 : Value).ownBlock) (.slice Ao31 t348.length co31) t352 0 1 4607182418800017408 t353 w _ ?side1 ?side2 A3.out).mono ?_); (case side1 => repeat (first | (with_reducible first | exact HB.out | apply below_alloc | apply pw_below_drewN | apply below_drew1 | refine below_set ?_ GE351.out) | exact HB.out)); (case side2 => exact Kd.R_tight rfl HO350.out); rintro e w36 ⟨rfl, hy0, hb, hkp⟩; refine ⟨_, rfl, ?_⟩; refine ax3 (Kd.R_reok rfl hy0 (fun k_ e_ => HO350.out.1 k_ e_)) (blk_kept (kb BK351) hkp (fun hs_ => (fun e_ => (Kd.R_ne HO350.out BK351.out (by decide)) e_) hs_)) hb ?_; clear HO350; clear BK351; clear HB; intro HO350 BK351 HB; (try clear hb); (try clear hkp); (try clear hy0); have hcz37_0 := bc BK351 0 rfl; have hcz37_1 := bc BK351 1 rfl; have hcz37_2 := bc BK351 2 rfl; have hcz37_3 := bc BK351 3 rfl; have hfz37_0 := blk_frozen BK351.out 0; have hfz37_1 := blk_frozen BK351.out 1; have hfz37_2 := blk_frozen BK351.out 2; have hfz37_3 := blk_frozen BK351.out 3) | ((with_reducible refine gate_callee (f := 31) rfl ?_); refine goesL_ (some 10) rfl rfl Tryd.func31 (by kernel_rfl) rfl #[.agg #[.int .i64 t345, .int .i64 t346, .int .i64 t347, .slice Ao31 t348.length co31], .int .i64 1, .int .i64 1, .int .u64 4616189618054758400] rfl ga ?_; (with_reducible refine (mat_Matrix_Set.calls t345 t346 t347 (fun k_ => some k_ = (.slice Ao31 t348.length co31 : Value).ownBlock) (.slice Ao31 t348.length co31) t353 1 1 4616189618054758400 t354 w _ ?side1 ?side2 A4.out).mono ?_); (case side1 => repeat (first | (with_reducible first | exact HB.out | apply below_alloc | apply pw_below_drewN | apply below_drew1 | refine below_set ?_ GE351.out) | exact HB.out)); (case side2 => exact Kd.R_tight rfl HO350.out); rintro e w38 ⟨rfl, hy0, hb, hkp⟩; refine ⟨_, rfl, ?_⟩; refine ax3 (Kd.R_reok rfl hy0 (fun k_ e_ => HO350.out.1 k_ e_)) (blk_kept (kb BK351) hkp (fun hs_ => (fun e_ => (Kd.R_ne HO350.out BK351.out (by decide)) e_) hs_)) hb ?_; clear HO350; clear BK351; clear HB; intro HO350 BK351 HB; (try clear hb); (try clear hkp); (try clear hy0); have hcz39_0 := bc BK351 0 rfl; have hcz39_1 := bc BK351 1 rfl; have hcz39_2 := bc BK351 2 rfl; have hcz39_3 := bc BK351 3 rfl; have hfz39_0 := blk_frozen BK351.out 0; have hfz39_1 := blk_frozen BK351.out 1; have hfz39_2 := blk_frozen BK351.out 2; have hfz39_3 := blk_frozen BK351.out 3) | ((with_reducible refine gate_dst (N := 13) rfl ?_); refine Kd.R_lit (Kd.int .u64) _ 24 ?hg (N := 13) ?hd (xs := ([4616189618054758400, 4620693217682128896] : List Int)) (inner := [.int .u64 4616189618054758400, .int .u64 4620693217682128896]) (ok := fun _ => True) (okp := fun _ => True) ?hr ?hp (fun _ hk => hk) trivial (Below.refl _ _) (Nat.le_refl _) (by simp) ?_; (case hd => rfl); (case hg => rfl); (case hr => first | (go_simp; done) | (go_simp; rfl)); (case hp => exact (Reps.one (show Kd.M (Kd.int .u64) _ _ _ 4616189618054758400 [.int .u64 4616189618054758400] from rfl) (Reps.one (show Kd.M (Kd.int .u64) _ _ _ 4620693217682128896 [.int .u64 4620693217682128896] from rfl) (Reps.none _ _)))); intro v356 w40 ho41 hb hg_ hnew_; clear hg_ hnew_; (first | rw [← Ny355.out] at ho41 | (simp only [Int.reduceToNat] at ho41; rw [← Ny355.out] at ho41)); refine ax4 (Kd.R_elder' (kr HO350) (Kd.R_base ho41) hb) (Kd.R_lower (Kd.R_new' ho41 (Kd.R_lt (kr HO350))) (below_size bes)) (bb BK351 hb) (below_step bes hb) ?_; clear HO350; clear BK351; clear HB; intro HO350 HO357 BK351 HB; clear hb ho41; obtain ⟨Ao42, co42, eo42⟩ := Kd.R_slice HO357.out; subst eo42) | ((with_reducible refine gate_callee (f := 12) rfl ?_); refine goesL_ (some 14) rfl rfl Tryd.func12 (by kernel_rfl) rfl #[.pointer none, .agg #[.int .i64 t345, .int .i64 t346, .int .i64 t347, .slice Ao31 t354.length co31], .bool true, .bool false, .slice Ao42 y355.length co42] rfl (by (try simp only [List.map_toArray, List.map_cons, List.map_nil]); first | done | (rw [show t354.length = t348.length from (Kd.R_reads' HO350.out).1.symm] <;> rfl) | rfl | (simp only [List.length_drop, List.length_take]; rfl)) ?_; (with_reducible refine (solve_Trsv_nil.calls k  t345 t346 t347 _ _ t354 true false _ _ y355 t358 t361 _ ?side1 ?side2 ?side3 ?side4 A5.out).mono ?_); (case side1 => exact ks HO350); (case side2 => rw [show t354.length = t348.length from (Kd.R_reads' HO350.out).1.symm]; exact (Kd.R_reads' HO350.out).2.1); (case side3 => exact ks HO357); (case side4 => exact (Kd.R_reads' HO357.out).2.1); rintro e w43 ⟨v359, rfl, ho0, hb⟩; refine ⟨_, rfl, ?_⟩; refine ax5 (Kd.R_elder' (kr HO350) (Kd.R_base ho0) hb) (Kd.R_elder' (kr HO357) (Kd.R_base ho0) hb) (Kd.R_lower (Kd.R_new' (Kd.R_new' ho0 (Kd.R_lt (kr HO350))) (Kd.R_lt (kr HO357))) (below_size bes)) (bb BK351 hb) (below_step bes hb) ?_; clear HO350; clear HO357; clear BK351; clear HB; intro HO350 HO357 HO360 BK351 HB; (try clear hb); (try clear ho0); obtain ⟨Ao44, co44, eo44⟩ := Kd.R_slice HO360.out; subst eo44; have p362 : 0 ≤ (0 : Int) := (by omega); have q362 : 0 < (t358.length : Int) := of_decide_eq_true (by first | (with_reducible assumption) | assumption); obtain ⟨ad362, e362, hx362_0⟩ := Kd.at_int (Kd.R_reads' HO360.out).2.2 0 p362 q362; cases e362; have qi362 : (0 < t358.length) = True := eq_true (by omega); (try rw [show ((0 : Int)).toNat = 0 from rfl] at hx362_0); (try rw [Addr.add_zero'] at hx362_0); replace p362 := eq_true p362; replace q362 := eq_true q362))
  go_ret
  exact ⟨er, bes⟩
 rw [if_pos c9] at H
 have c9b0 : ((rd t358 0) == 4607182418800017408) = true := beq_iff_eq.mpr c9
 have c9b1 : ((rd t358 0) != 4607182418800017408) = false := bne_eq_false_iff_eq.mpr c9
 clear c9
 by_cases c10 : 1 < (t358.length : Int)
 rotate_left
 ·
  rw [if_neg c10] at H
  exact absurd H (by simp)
 rw [if_pos c10] at H
 have c10b0 : decide (1 < (t358.length : Int)) = true := decide_eq_true c10
 have c10b1 : decide (1 < t358.length) = true := decide_eq_true (by omega)
 clear c10
 obtain rfl := Option.some.inj H
 go_enter Tryd.func6, Tryd.ntmps6
 go_wp2_with (first | ((with_reducible refine gate_callee (f := 10) rfl ?_); refine goesL_ (some 4) rfl rfl Tryd.func10 (by kernel_rfl) rfl #[.int .i64 2, .int .i64 2] rfl ga ?_; (with_reducible refine (mat_New.calls 2 2 t345 t346 t347 t348 _ A1.out).mono ?_); rintro e w11 ⟨v349, rfl, ho0, hb⟩; refine ⟨_, rfl, ?_⟩; refine ax2 (Kd.R_lower ho0 (below_size bel)) (below_step bel hb) ?_; clear HB; intro HO350 HB; (try clear hb); (try clear ho0)) | ((with_reducible refine gate_dst (N := 1) rfl ?_); refine gbox (N := 1) (cs := #[.int .i64 0, .int .i64 0, .int .i64 0, .slice none 0 0]) (t := 35) ?_; intro gb351 hg w12 hbox hb; refine ax5 (Kd.R_below (kr HO350) hb) (below_step bel hb) hbox ((ge hg : w.heap.size ≤ gb351)) ((ge hg : w.heap.size ≤ gb351)) ?_; clear HO350; clear HB; intro HO350 HB BK351 GW351 GE351; clear hb hbox hg; have hcz13_0 := bc BK351 0 rfl; have hcz13_1 := bc BK351 1 rfl; have hcz13_2 := bc BK351 2 rfl; have hcz13_3 := bc BK351 3 rfl; have hfz13_0 := blk_frozen BK351.out 0; have hfz13_1 := blk_frozen BK351.out 1; have hfz13_2 := blk_frozen BK351.out 2; have hfz13_3 := blk_frozen BK351.out 3; obtain ⟨Ao14, co14, eo14⟩ := Kd.R_slice HO350.out; subst eo14) | ((with_reducible refine gate_store (t := 35) (p := 1) rfl ?_); refine store_event (t := 35) (p := 1) (v := ?vo_w15) (w1 := ((((w12.setCell ⟨gb351, 0, none⟩ (.int .i64 t345)).setCell ⟨gb351, 1, none⟩ (.int .i64 t346)).setCell ⟨gb351, 2, none⟩ (.int .i64 t347)).setCell ⟨gb351, 3, none⟩ (.slice Ao14 t348.length co14))) ?hg ?ho ?hn ?hr ?_; (case ho => rfl); (case hg => rfl); (case hn => rfl); (case hr => first | (go_simp; done) | (go_simp; rfl)); intro w15 hw; have n0_ : Aside0 (Kd.R (Kd.int .u64) 24 w15 w.heap.size (fun _ => True) (.slice Ao14 t348.length co14) t348) := ⟨(by rw [hw]; exact (by (with_reducible repeat (first | apply Kd.R_alloc | apply Kd.R_drewN | apply Kd.R_drew)); exact Kd.R_mono (Kd.R_far (p := ⟨gb351, 3, none⟩) (Kd.R_far (p := ⟨gb351, 2, none⟩) (Kd.R_far (p := ⟨gb351, 1, none⟩) (Kd.R_far (p := ⟨gb351, 0, none⟩) (Kd.R_types HO350.out BK351.out (by decide)) (fun _ hk => hk.2) (.int .i64 t345)) (fun _ hk => hk.2) (.int .i64 t346)) (fun _ hk => hk.2) (.int .i64 t347)) (fun _ hk => hk.2) (.slice Ao14 t348.length co14)) (fun _ hk => trivial)))⟩; have n1_ : Aside0 (w15.heap[gb351]? = some (.cells #[.int .i64 t345, .int .i64 t346, .int .i64 t347, .slice Ao14 t348.length co14] 35 (0, 0))) := ⟨(by rw [hw]; exact (bp BK351))⟩; have n2_ : Aside0 (Below w.heap.size w w15) := ⟨(by rw [hw]; exact bes)⟩; clear hw; clear HO350; clear BK351; clear HB; have HO350 := n0_; have BK351 := n1_; have HB := n2_; clear n0_ n1_ n2_; have hcz16_0 := bc BK351 0 rfl; have hcz16_1 := bc BK351 1 rfl; have hcz16_2 := bc BK351 2 rfl; have hcz16_3 := bc BK351 3 rfl; have hfz16_0 := blk_frozen BK351.out 0; have hfz16_1 := blk_frozen BK351.out 1; have hfz16_2 := blk_frozen BK351.out 2; have hfz16_3 := blk_frozen BK351.out 3) | ((with_reducible refine gate_callee (f := 31) rfl ?_); refine goesL_ (some 6) rfl rfl Tryd.func31 (by kernel_rfl) rfl #[.agg #[.int .i64 t345, .int .i64 t346, .int .i64 t347, .slice Ao14 t348.length co14], .int .i64 0, .int .i64 0, .int .u64 4611686018427387904] rfl ga ?_; (with_reducible refine (mat_Matrix_Set.calls t345 t346 t347 (fun k_ => some k_ = (.slice Ao14 t348.length co14 : Value).ownBlock) (.slice Ao14 t348.length co14) t348 0 0 4611686018427387904 t352 w _ ?side1 ?side2 A2.out).mono ?_); (case side1 => repeat (first | (with_reducible first | exact HB.out | apply below_alloc | apply pw_below_drewN | apply below_drew1 | refine below_set ?_ GE351.out) | exact HB.out)); (case side2 => exact Kd.R_tight rfl HO350.out); rintro e w17 ⟨rfl, hy0, hb, hkp⟩; refine ⟨_, rfl, ?_⟩; refine ax3 (Kd.R_reok rfl hy0 (fun k_ e_ => HO350.out.1 k_ e_)) (blk_kept (kb BK351) hkp (fun hs_ => (fun e_ => (Kd.R_ne HO350.out BK351.out (by decide)) e_) hs_)) hb ?_; clear HO350; clear BK351; clear HB; intro HO350 BK351 HB; (try clear hb); (try clear hkp); (try clear hy0); have hcz18_0 := bc BK351 0 rfl; have hcz18_1 := bc BK351 1 rfl; have hcz18_2 := bc BK351 2 rfl; have hcz18_3 := bc BK351 3 rfl; have hfz18_0 := blk_frozen BK351.out 0; have hfz18_1 := blk_frozen BK351.out 1; have hfz18_2 := blk_frozen BK351.out 2; have hfz18_3 := blk_frozen BK351.out 3) | ((with_reducible refine gate_callee (f := 31) rfl ?_); refine goesL_ (some 8) rfl rfl Tryd.func31 (by kernel_rfl) rfl #[.agg #[.int .i64 t345, .int .i64 t346, .int .i64 t347, .slice Ao14 t348.length co14], .int .i64 0, .int .i64 1, .int .u64 4607182418800017408] rfl ga ?_; (with_reducible refine (mat_Matrix_Set.calls t345 t346 t347 (fun k_ => some k_ = (.slice Ao14 t348.length co14 : Value).ownBlock) (.slice Ao14 t348.length co14) t352 0 1 4607182418800017408 t353 w _ ?side1 ?side2 A3.out).mono ?_); (case side1 => repeat (first | (with_reducible first | exact HB.out | apply below_alloc | apply pw_below_drewN | apply below_drew1 | refine below_set ?_ GE351.out) | exact HB.out)); (case side2 => exact Kd.R_tight rfl HO350.out); rintro e w19 ⟨rfl, hy0, hb, hkp⟩; refine ⟨_, rfl, ?_⟩; refine ax3 (Kd.R_reok rfl hy0 (fun k_ e_ => HO350.out.1 k_ e_)) (blk_kept (kb BK351) hkp (fun hs_ => (fun e_ => (Kd.R_ne HO350.out BK351.out (by decide)) e_) hs_)) hb ?_; clear HO350; clear BK351; clear HB; intro HO350 BK351 HB; (try clear hb); (try clear hkp); (try clear hy0); have hcz20_0 := bc BK351 0 rfl; have hcz20_1 := bc BK351 1 rfl; have hcz20_2 := bc BK351 2 rfl; have hcz20_3 := bc BK351 3 rfl; have hfz20_0 := blk_frozen BK351.out 0; have hfz20_1 := blk_frozen BK351.out 1; have hfz20_2 := blk_frozen BK351.out 2; have hfz20_3 := blk_frozen BK351.out 3) | ((with_reducible refine gate_callee (f := 31) rfl ?_); refine goesL_ (some 10) rfl rfl Tryd.func31 (by kernel_rfl) rfl #[.agg #[.int .i64 t345, .int .i64 t346, .int .i64 t347, .slice Ao14 t348.length co14], .int .i64 1, .int .i64 1, .int .u64 4616189618054758400] rfl ga ?_; (with_reducible refine (mat_Matrix_Set.calls t345 t346 t347 (fun k_ => some k_ = (.slice Ao14 t348.length co14 : Value).ownBlock) (.slice Ao14 t348.length co14) t353 1 1 4616189618054758400 t354 w _ ?side1 ?side2 A4.out).mono ?_); (case side1 => repeat (first | (with_reducible first | exact HB.out | apply below_alloc | apply pw_below_drewN | apply below_drew1 | refine below_set ?_ GE351.out) | exact HB.out)); (case side2 => exact Kd.R_tight rfl HO350.out); rintro e w21 ⟨rfl, hy0, hb, hkp⟩; refine ⟨_, rfl, ?_⟩; refine ax3 (Kd.R_reok rfl hy0 (fun k_ e_ => HO350.out.1 k_ e_)) (blk_kept (kb BK351) hkp (fun hs_ => (fun e_ => (Kd.R_ne HO350.out BK351.out (by decide)) e_) hs_)) hb ?_; clear HO350; clear BK351; clear HB; intro HO350 BK351 HB; (try clear hb); (try clear hkp); (try clear hy0); have hcz22_0 := bc BK351 0 rfl; have hcz22_1 := bc BK351 1 rfl; have hcz22_2 := bc BK351 2 rfl; have hcz22_3 := bc BK351 3 rfl; have hfz22_0 := blk_frozen BK351.out 0; have hfz22_1 := blk_frozen BK351.out 1; have hfz22_2 := blk_frozen BK351.out 2; have hfz22_3 := blk_frozen BK351.out 3) | ((with_reducible refine gate_dst (N := 13) rfl ?_); refine Kd.R_lit (Kd.int .u64) _ 24 ?hg (N := 13) ?hd (xs := ([4616189618054758400, 4620693217682128896] : List Int)) (inner := [.int .u64 4616189618054758400, .int .u64 4620693217682128896]) (ok := fun _ => True) (okp := fun _ => True) ?hr ?hp (fun _ hk => hk) trivial (Below.refl _ _) (Nat.le_refl _) (by simp) ?_; (case hd => rfl); (case hg => rfl); (case hr => first | (go_simp; done) | (go_simp; rfl)); (case hp => exact (Reps.one (show Kd.M (Kd.int .u64) _ _ _ 4616189618054758400 [.int .u64 4616189618054758400] from rfl) (Reps.one (show Kd.M (Kd.int .u64) _ _ _ 4620693217682128896 [.int .u64 4620693217682128896] from rfl) (Reps.none _ _)))); intro v356 w23 ho24 hb hg_ hnew_; clear hg_ hnew_; (first | rw [← Ny355.out] at ho24 | (simp only [Int.reduceToNat] at ho24; rw [← Ny355.out] at ho24)); refine ax4 (Kd.R_elder' (kr HO350) (Kd.R_base ho24) hb) (Kd.R_lower (Kd.R_new' ho24 (Kd.R_lt (kr HO350))) (below_size bes)) (bb BK351 hb) (below_step bes hb) ?_; clear HO350; clear BK351; clear HB; intro HO350 HO357 BK351 HB; clear hb ho24; obtain ⟨Ao25, co25, eo25⟩ := Kd.R_slice HO357.out; subst eo25) | ((with_reducible refine gate_callee (f := 12) rfl ?_); refine goesL_ (some 14) rfl rfl Tryd.func12 (by kernel_rfl) rfl #[.pointer none, .agg #[.int .i64 t345, .int .i64 t346, .int .i64 t347, .slice Ao14 t354.length co14], .bool true, .bool false, .slice Ao25 y355.length co25] rfl (by (try simp only [List.map_toArray, List.map_cons, List.map_nil]); first | done | (rw [show t354.length = t348.length from (Kd.R_reads' HO350.out).1.symm] <;> rfl) | rfl | (simp only [List.length_drop, List.length_take]; rfl)) ?_; (with_reducible refine (solve_Trsv_nil.calls k  t345 t346 t347 _ _ t354 true false _ _ y355 t358 t361 _ ?side1 ?side2 ?side3 ?side4 A5.out).mono ?_); (case side1 => exact ks HO350); (case side2 => rw [show t354.length = t348.length from (Kd.R_reads' HO350.out).1.symm]; exact (Kd.R_reads' HO350.out).2.1); (case side3 => exact ks HO357); (case side4 => exact (Kd.R_reads' HO357.out).2.1); rintro e w26 ⟨v359, rfl, ho0, hb⟩; refine ⟨_, rfl, ?_⟩; refine ax5 (Kd.R_elder' (kr HO350) (Kd.R_base ho0) hb) (Kd.R_elder' (kr HO357) (Kd.R_base ho0) hb) (Kd.R_lower (Kd.R_new' (Kd.R_new' ho0 (Kd.R_lt (kr HO350))) (Kd.R_lt (kr HO357))) (below_size bes)) (bb BK351 hb) (below_step bes hb) ?_; clear HO350; clear HO357; clear BK351; clear HB; intro HO350 HO357 HO360 BK351 HB; (try clear hb); (try clear ho0); obtain ⟨Ao27, co27, eo27⟩ := Kd.R_slice HO360.out; subst eo27; have p362 : 0 ≤ (0 : Int) := (by omega); have q362 : 0 < (t358.length : Int) := of_decide_eq_true (by first | (with_reducible assumption) | assumption); obtain ⟨ad362, e362, hx362_0⟩ := Kd.at_int (Kd.R_reads' HO360.out).2.2 0 p362 q362; cases e362; have qi362 : (0 < t358.length) = True := eq_true (by omega); (try rw [show ((0 : Int)).toNat = 0 from rfl] at hx362_0); (try rw [Addr.add_zero'] at hx362_0); replace p362 := eq_true p362; replace q362 := eq_true q362; have p363 : 0 ≤ (1 : Int) := (by omega); have q363 : 1 < (t358.length : Int) := of_decide_eq_true (by first | (with_reducible assumption) | assumption); obtain ⟨ad363, e363, hx363_0⟩ := Kd.at_int (Kd.R_reads' HO360.out).2.2 1 p363 q363; obtain rfl : ad362 = ad363 := (by injection e363); (try simp only [show (1 : Int).toNat = 1 from rfl, Nat.reduceMul, Nat.reduceEqDiff, Go.Addr.add, ↓reduceIte] at hx363_0); have qi363 : (1 < t358.length) = True := eq_true (by omega); (try rw [show ((1 : Int)).toNat = 1 from rfl] at hx363_0); replace p363 := eq_true p363; replace q363 := eq_true q363))
 go_ret
 exact ⟨er, bes⟩
/-! ### bits_TrailingZeros32: function 50 -/
/-- The library's table stands in the world. -/
def TabW (w : World) : Prop := TabAt 0 Lib.deBruijn32tab w
theorem TabW.drewN {w : World} (h : TabW w) (n : Nat) : TabW (w.drewN n) := h
theorem TabW.drew {w : World} (h : TabW w) : TabW w.drew := h
theorem TabW.below {w W : World} (h : TabW w) (hb : Below w.heap.size w W) : TabW W := fun j hj => (hb.cell (World.block_lt_of_cell? w _ (h j hj))).trans (h j hj)
def bits_TrailingZeros32.f (a0 : Int) : Option (Int) := if 0 ≤ a0 then (if a0 < 4294967296 then (some (Lib.ctz 32 a0.toNat : Int)) else none) else none
theorem bits_TrailingZeros32.zero (w : World) : Calls Tryd.prog 50 #[.int .u32 0] w fun e w' => e = .returned (.int .i64 32) ∧ w' = w := by
 go_enter Tryd.func50, Tryd.ntmps50
 go_wp2
 go_ret
 exact ⟨rfl, rfl⟩
set_option maxHeartbeats 1000000 in
theorem bits_TrailingZeros32.core (x k idx : Nat) (w : World) (hx0 : ((x : Int) == 0) = false)
  (key : bits BinOp.and IntKind.u32 (x : Int) (-(x : Int) % 4294967296) * 125613361 % 4294967296 / 134217728 = (idx : Int))
  (hi : idx < 32) (hk : k < 32) (hcell : w.cell? ⟨0, idx, none⟩ = some (.int .u8 k)) :
  Calls Tryd.prog 50 #[.int .u32 x] w fun e w' => e = .returned (.int .i64 k) ∧ w' = w := by
 go_enter Tryd.func50, Tryd.ntmps50
 go_wp2_with (simp only [key])
 go_ret
 exact ⟨rfl, rfl⟩
theorem bits_TrailingZeros32.calls (a0 : Int) (r : Int) (w : World) (hT : TabW w) (h : bits_TrailingZeros32.f a0 = some r) :
  Calls Tryd.prog 50 #[.int .u32 a0] w fun e w' => e = .returned (.int .i64 r) ∧ Drawn0 w w' := by
 unfold bits_TrailingZeros32.f at h
 by_cases h0 : 0 ≤ a0
 rotate_left
 ·
  rw [if_neg h0] at h; cases h

 by_cases h1 : a0 < 4294967296
 rotate_left
 ·
  rw [if_pos h0, if_neg h1] at h; cases h
 rw [if_pos h0, if_pos h1] at h
 obtain rfl := Option.some.inj h
 obtain ⟨x, rfl⟩ := Int.eq_ofNat_of_zero_le h0
 have hx : x < 4294967296 := by omega
 by_cases hx0 : x = 0
 ·
  subst hx0
  exact (bits_TrailingZeros32.zero w).mono fun e w' ⟨he, hw⟩ => ⟨he, hw ▸ Drawn0.refl _⟩
 ·
  obtain ⟨hlow, hk⟩ := Lib.lowest_bit 32 x hx0 hx
  obtain ⟨hi, htab⟩ := Lib.deBruijn32_at _ hk
  have hcell := hT _ hi
  rw [htab] at hcell
  exact (bits_TrailingZeros32.core x _ _ w (by simp; omega) (tz32_key x _ hx hx0 hlow) hi hk hcell).mono fun e w' ⟨he, hw⟩ => ⟨he, hw ▸ Drawn0.refl _⟩
/-! ### dyad_down: function 51 -/
def dyad_down.l0 : Nat → List Int → Int → List Int → Int → Int → Option (List Int)
 | 0, _, _, _, _, _ => none
 | k + 1, x0, x1, x5, x12, x13 => if x13 < x12 then (if 0 ≤ x13 then (if x13 < (x0.length : Int) then (if 0 ≤ x1 then (if x13 < (x5.length : Int) then ((some (x5.set (x13 : Int).toNat (shr .u32 (rd x0 x13) x1) : List Int)).bind fun y368 => (if (wrap64 (x13 + 1)) < (x0.length : Int) then (if 0 ≤ (wrap64 (x13 + 1)) then (if 0 ≤ (wrap64 (32 - x1)) then (dyad_down.l0 k x0 x1 (y368.set (x13 : Int).toNat (Go.bits .or .u32 (rd y368 x13) (shl .u32 (rd x0 (wrap64 (x13 + 1))) (wrap64 (32 - x1))))) x12 (wrap64 (x13 + 1))) else (none)) else (none)) else (dyad_down.l0 k x0 x1 y368 x12 (wrap64 (x13 + 1))))) else (none)) else (none)) else (none)) else (none)) else (if (x5.length : Int) > 0 then (if 0 ≤ (wrap64 ((x5.length : Int) - 1)) then (if (wrap64 ((x5.length : Int) - 1)) < (x5.length : Int) then (if (rd x5 (wrap64 ((x5.length : Int) - 1))) = 0 then (if (wrap64 ((x5.length : Int) - 1)) ≤ (x5.length : Int) then (some (x5.take ((wrap64 ((x5.length : Int) - 1)) : Int).toNat)) else (none)) else (some x5)) else (none)) else (none)) else (some x5))
def dyad_down.f (k : Nat) (l0 : List Int) (a1 : Int) : Option (List Int) := if 0 ≤ (l0.length : Int) then (if ((l0.length : Int) : Int).toNat ≤ 70368744177664 then (dyad_down.l0 k l0 a1 (List.replicate ((l0.length : Int) : Int).toNat 0) (l0.length : Int) 0) else (none)) else (none)
theorem dyad_down.mono_l : ∀ k, (∀ y0 y1 y2 y3 y4, LeO (dyad_down.l0 k y0 y1 y2 y3 y4) (dyad_down.l0 (k + 1) y0 y1 y2 y3 y4))
 | 0 => fun _ _ _ _ _ r h => by simp [dyad_down.l0] at h
 | k + 1 => by
  have ih0 := dyad_down.mono_l k
  ·
   intro y0 y1 y2 y3 y4
   unfold dyad_down.l0
   repeat' with_reducible first | apply ih0 | exact LeO.refl _ | exact LeO.none _ | refine LeO.ite ?_ ?_ | refine LeO.bind ?_ (fun _ => ?_)
theorem dyad_down.mono : ∀ a0 a1 k, LeO (dyad_down.f k a0 a1) (dyad_down.f (k + 1) a0 a1) := by
 intro a0 a1 k
 have ih0 := dyad_down.mono_l k
 unfold dyad_down.f
 repeat' with_reducible first | apply ih0 | exact LeO.refl _ | exact LeO.none _ | refine LeO.ite ?_ ?_ | refine LeO.bind ?_ (fun _ => ?_)
def dyad_down.T7 : Bool × List (List Nat × List Nat) := (true, [([], []), ([], []), ([0, 1], [0, 1]), ([2], [2]), ([], []), ([], []), ([5], [5]), ([4, 6], [4, 6]), ([7], [7]), ([], []), ([9], [9]), ([8, 10], [8, 10]), ([3, 11], [3, 11]), ([0, 1, 0, 1, 2, 3, 4, 5, 6, 7, 8, 9, 10, 11, 12], [0, 1]), ([13, 12, 0, 1, 2, 3, 4, 5, 6, 7, 8, 9, 10, 11, 12], [12, 13])])
def dyad_down.B7 : List Nat := [0, 0, 3, 7, 0, 0, 32, 112, 240, 0, 512, 2032, 4095, 8191, 16383]
theorem dyad_down.tab7 : rtab .any (opsOf Tryd.f51 7) = dyad_down.T7 := by kernel_rfl
theorem dyad_down.bits7 : waitsOk dyad_down.T7.2 dyad_down.B7 = true := by kernel_rfl
set_option maxHeartbeats 8000000 in
set_option maxRecDepth 100000 in
theorem dyad_down.calls (k : Nat) (A0 : Option Addr) (c0 : Nat) (l0 : List Int) (a1 : Int) (r : List Int) (w : World) (hr0 : Kd.C (Kd.int .u32) w A0 l0.length l0) (hc0 : l0.length ≤ c0) (h : dyad_down.f k l0 a1 = some r) :
  Calls Tryd.prog 51 #[.slice A0 l0.length c0, .int .i64 a1] w fun e w' => ∃ v0_ : Value, e = .returned (v0_) ∧ Kd.V (Kd.int .u32) 62 w' w.heap.size (fun k_ => (w.heap.size ≤ k_)) v0_ r ∧ Below w.heap.size w w' := by
 have HR0 := Aside0.mk hr0
 have HC0 := Aside0.mk hc0
 clear hr0 hc0
 have HB := Aside0.mk (Below.refl w.heap.size w)
 have H : (if 0 ≤ (l0.length : Int) then (if ((l0.length : Int) : Int).toNat ≤ 70368744177664 then (dyad_down.l0 k l0 a1 (List.replicate ((l0.length : Int) : Int).toNat 0) (l0.length : Int) 0) else (none)) else (none)) = some r := h
 clear h
 by_cases c3 : 0 ≤ (l0.length : Int)
 rotate_left
 ·
  rw [if_neg c3] at H
  exact absurd H (by simp)

 rw [if_pos c3] at H
 have c3b0 := eq_true c3
 have c3b1 : decide (0 ≤ (l0.length : Int)) = true := decide_eq_true c3
 clear c3
 by_cases c4 : ((l0.length : Int) : Int).toNat ≤ 70368744177664
 rotate_left
 ·
  rw [if_neg c4] at H
  exact absurd H (by simp)
 rw [if_pos c4] at H
 have c4b0 := eq_true c4
 have c4b1 : decide (((l0.length : Int) : Int).toNat ≤ 70368744177664) = true := decide_eq_true c4
 clear c4
 obtain ⟨y364, hy364⟩ : ∃ y_ : List Int, y_ = (List.replicate ((l0.length : Int) : Int).toNat 0) := ⟨_, rfl⟩
 replace H : (dyad_down.l0 k l0 a1 y364 (l0.length : Int) 0) = some r := by first | (rw [hy364]; with_reducible exact H) | (have H2_ := (Option.bind_some _ _).symm.trans H; rw [hy364]; with_reducible exact H2_) | (have H2_ := (Option.bind_some _ _).symm.trans H; with_reducible exact H2_) | with_reducible exact H | (rw [hy364]; exact H) | exact H
 have Ny364 := Aside0.mk hy364
 clear hy364
 have H' := Aside0.mk H
 clear H
 go_enter Tryd.func51, Tryd.ntmps51
 go_wp2_with (first | ((with_reducible refine gate_dst (N := 10) rfl ?_); refine Kd.R_make (Kd.int .u32) _ 62 rfl (N := 10) rfl 27 _ _ rfl (l0.length : Int) rfl rfl Tryd.underlying27 (.int .u32 0) 4 info62 rfl (by decide) (by omega) 0 (ok := fun _ => True) (okp := fun _ => True) rfl (fun _ hk => hk) trivial (of_decide_eq_true (by first | (with_reducible assumption) | assumption)) (Nat.le_trans (Nat.mul_le_mul_right _ (of_decide_eq_true (by first | (with_reducible assumption) | assumption) : (l0.length : Int).toNat ≤ 70368744177664)) (by omega)) (Below.refl _ _) (Nat.le_refl _) ?_; intro v365 w5 ho6 hb hg_ hnew_; clear hg_ hnew_; (first | rw [← Ny364.out] at ho6 | (simp only [Int.reduceToNat] at ho6; rw [← Ny364.out] at ho6)); refine ax2 (Kd.R_lower (Kd.R_newM (M := fun k_ => (w.heap.size ≤ k_)) ho6 (below_size bel) (fun k_ h_ => h_)) (below_size bel)) (below_step bel hb) ?_; clear HB; intro HO366 HB; clear hb ho6))
 go_loopg [13] k (fun kq v13 w' => ∃ (x5_1 : List Int) (x13_1 : Int), v13 = .int .i64 x13_1 ∧ Aside0 (dyad_down.l0 kq l0 a1 x5_1 (l0.length : Int) x13_1 = some r) ∧ Aside0 (kq ≤ k) ∧ Aside0 (Kd.R (Kd.int .u32) 62 w' w.heap.size (fun k_ => (w.heap.size ≤ k_)) v365 x5_1) ∧ Aside0 (Below w.heap.size w w'))
 case atStart => exact ⟨(y364), (0), (by first | rfl | (simp; done) | (simp [*]; done)), H', ⟨Nat.le_refl _⟩, ⟨by (with_reducible repeat (first | apply Kd.R_alloc | apply Kd.R_drewN | apply Kd.R_drew)); exact Kd.R_mono HO366.out (fun _ hk => hk.1)⟩, ⟨bel⟩⟩
 case round =>
  clear H'
  try clear p2
  try clear c3
  try clear c3b0
  try clear c3b1
  try clear c4
  try clear c4b0
  try clear c4b1
  try clear c5
  obtain ⟨x5_1, x13_1, rfl, HA, HK1, HO_5, HB⟩ := hrel
  cases gk with
  | zero => exact absurd HA.out (by simp [dyad_down.l0])
  | succ k1 =>
   have H := HA.out
   clear HA
   simp only [dyad_down.l0] at H
   by_cases c7 : x13_1 < (l0.length : Int)
   ·
    rw [if_pos c7] at H
    have c7b0 : decide (x13_1 < (l0.length : Int)) = true := decide_eq_true c7
    clear c7
    by_cases c8 : 0 ≤ x13_1
    rotate_left
    ·
     rw [if_neg c8] at H
     exact absurd H (by simp)
    rw [if_pos c8] at H
    have c8b0 : decide (0 ≤ x13_1) = true := decide_eq_true c8
    clear c8
    by_cases c9 : x13_1 < (l0.length : Int)
    rotate_left
    ·
     rw [if_neg c9] at H
     exact absurd H (by simp)
    rw [if_pos c9] at H
    have c9b0 : decide (x13_1 < (l0.length : Int)) = true := decide_eq_true c9
    clear c9
    by_cases c10 : 0 ≤ a1
    rotate_left
    ·
     rw [if_neg c10] at H
     exact absurd H (by simp)
    rw [if_pos c10] at H
    have c10b0 := eq_true c10
    have c10b1 : decide (0 ≤ a1) = true := decide_eq_true c10
    clear c10
    obtain ⟨ji11, hji11⟩ : ∃ j_ : Int, (shr .u32 (rd l0 x13_1) a1) = j_ := ⟨_, rfl⟩
    replace H : (if x13_1 < (x5_1.length : Int) then ((some (x5_1.set (x13_1 : Int).toNat (ji11) : List Int)).bind fun y368 => (if (wrap64 (x13_1 + 1)) < (l0.length : Int) then (if 0 ≤ (wrap64 (x13_1 + 1)) then (if 0 ≤ (wrap64 (32 - a1)) then (dyad_down.l0 k1 l0 a1 (y368.set (x13_1 : Int).toNat (Go.bits .or .u32 (rd y368 x13_1) (shl .u32 (rd l0 (wrap64 (x13_1 + 1))) (wrap64 (32 - a1))))) (l0.length : Int) (wrap64 (x13_1 + 1))) else (none)) else (none)) else (dyad_down.l0 k1 l0 a1 y368 (l0.length : Int) (wrap64 (x13_1 + 1))))) else (none)) = some r := by first | (rw [hji11] at H; exact H) | (simp only [hji11] at H ⊢; exact H)
    have hji11_ : ((rd l0 x13_1) / 2 ^ min a1.toNat 32) = ji11 := hji11
    have hji11z : a1 ≤ 32 → ((rd l0 x13_1) / 2 ^ a1.toNat) = ji11 := shr_small hji11
    by_cases c12 : x13_1 < (x5_1.length : Int)
    rotate_left
    ·
     rw [if_neg c12] at H
     exact absurd H (by simp)
    rw [if_pos c12] at H
    have c12b0 : decide (x13_1 < (x5_1.length : Int)) = true := decide_eq_true c12
    clear c12
    obtain ⟨y368, hy368⟩ : ∃ y_ : List Int, y_ = (x5_1.set (x13_1 : Int).toNat (ji11)) := ⟨_, rfl⟩
    replace H : (if (wrap64 (x13_1 + 1)) < (l0.length : Int) then (if 0 ≤ (wrap64 (x13_1 + 1)) then (if 0 ≤ (wrap64 (32 - a1)) then (dyad_down.l0 k1 l0 a1 (y368.set (x13_1 : Int).toNat (Go.bits .or .u32 (rd y368 x13_1) (shl .u32 (rd l0 (wrap64 (x13_1 + 1))) (wrap64 (32 - a1))))) (l0.length : Int) (wrap64 (x13_1 + 1))) else (none)) else (none)) else (dyad_down.l0 k1 l0 a1 y368 (l0.length : Int) (wrap64 (x13_1 + 1)))) = some r := by first | (rw [hy368]; with_reducible exact H) | (have H2_ := (Option.bind_some _ _).symm.trans H; rw [hy368]; with_reducible exact H2_) | (have H2_ := (Option.bind_some _ _).symm.trans H; with_reducible exact H2_) | with_reducible exact H | (rw [hy368]; exact H) | exact H
    have Ny368 := Aside0.mk hy368
    clear hy368
    by_cases c14 : (wrap64 (x13_1 + 1)) < (l0.length : Int)
    ·
     rw [if_pos c14] at H
     have c14b0 : decide ((wrap64 (x13_1 + 1)) < (l0.length : Int)) = true := decide_eq_true c14
     clear c14
     obtain ⟨ji15, hji15⟩ : ∃ j_ : Int, (wrap64 (x13_1 + 1)) = j_ := ⟨_, rfl⟩
     replace H : (if 0 ≤ (ji15) then (if 0 ≤ (wrap64 (32 - a1)) then (dyad_down.l0 k1 l0 a1 (y368.set (x13_1 : Int).toNat (Go.bits .or .u32 (rd y368 x13_1) (shl .u32 (rd l0 (ji15)) (wrap64 (32 - a1))))) (l0.length : Int) ji15) else (none)) else (none)) = some r := by first | (rw [hji15] at H; exact H) | (simp only [hji15] at H ⊢; exact H)
     (try rw [hji15] at c14b0)
     have hji15w : (IntKind.i64.wrap (x13_1 + 1)) = ji15 := (i64_w _).trans hji15
     by_cases c16 : 0 ≤ (ji15)
     rotate_left
     ·
      rw [if_neg c16] at H
      exact absurd H (by simp)
     rw [if_pos c16] at H
     have c16b0 : decide (0 ≤ (ji15)) = true := decide_eq_true c16
     clear c16
     obtain ⟨ji17, hji17⟩ : ∃ j_ : Int, (wrap64 (32 - a1)) = j_ := ⟨_, rfl⟩
     replace H : (if 0 ≤ (ji17) then (dyad_down.l0 k1 l0 a1 (y368.set (x13_1 : Int).toNat (Go.bits .or .u32 (rd y368 x13_1) (shl .u32 (rd l0 (ji15)) (ji17)))) (l0.length : Int) ji15) else (none)) = some r := by first | (rw [hji17] at H; exact H) | (simp only [hji17] at H ⊢; exact H)
     have hji17w : (IntKind.i64.wrap (32 - a1)) = ji17 := (i64_w _).trans hji17
     by_cases c18 : 0 ≤ (ji17)
     rotate_left
     ·
      rw [if_neg c18] at H
      exact absurd H (by simp)
     rw [if_pos c18] at H
     have c18b0 := eq_true c18
     have c18b1 : decide (0 ≤ (ji17)) = true := decide_eq_true c18
     clear c18
     obtain ⟨ji19, hji19⟩ : ∃ j_ : Int, (shl .u32 (rd l0 (ji15)) (ji17)) = j_ := ⟨_, rfl⟩
     replace H : (dyad_down.l0 k1 l0 a1 (y368.set (x13_1 : Int).toNat (Go.bits .or .u32 (rd y368 x13_1) (ji19))) (l0.length : Int) ji15) = some r := by first | (rw [hji19] at H; exact H) | (simp only [hji19] at H ⊢; exact H)
     have hji19_ : (IntKind.u32.wrap ((rd l0 (ji15)) * 2 ^ min (ji17).toNat 32)) = ji19 := hji19
     have hji19z : (ji17) ≤ 32 → (IntKind.u32.wrap ((rd l0 (ji15)) * 2 ^ (ji17).toNat)) = ji19 := shl_small hji19
     obtain ⟨y371, hy371⟩ : ∃ y_ : List Int, y_ = (y368.set (x13_1 : Int).toNat (Go.bits .or .u32 (rd y368 x13_1) (ji19))) := ⟨_, rfl⟩
     replace H : (dyad_down.l0 k1 l0 a1 y371 (l0.length : Int) ji15) = some r := by first | (rw [hy371]; with_reducible exact H) | (have H2_ := (Option.bind_some _ _).symm.trans H; rw [hy371]; with_reducible exact H2_) | (have H2_ := (Option.bind_some _ _).symm.trans H; with_reducible exact H2_) | with_reducible exact H | (rw [hy371]; exact H) | exact H
     have Ny371 := Aside0.mk hy371
     clear hy371
     have H' := Aside0.mk H
     clear H
     have p367 : 0 ≤ (x13_1 : Int) := of_decide_eq_true (by first | (with_reducible assumption) | assumption)
     have q367 : x13_1 < (l0.length : Int) := of_decide_eq_true (by first | (with_reducible assumption) | assumption)
     obtain ⟨ad367, e367, hx367_0⟩ := Kd.at_int HR0.out x13_1 p367 q367
     cases e367
     replace hx367_0 := (HB.out.cell (World.block_lt_of_cell? w _ hx367_0)).trans hx367_0
     replace p367 := eq_true p367
     replace q367 := eq_true q367
     have p13 : 0 ≤ (x13_1 : Int) := of_decide_eq_true (by first | (with_reducible assumption) | assumption)
     have q13 : (x13_1 : Int) < ((x5_1.length : Int) : Int) := of_decide_eq_true (by first | (with_reducible assumption) | assumption)
     obtain ⟨go13, co13, eo13, gb13, gl13, cl13, HG13⟩ := Kd.R_form HO_5.out (by omega)
     (first | cases eo13 | (injection eo13 with ea_ en_ ec_; (first | subst ea_ | (injection ea_ with ea_; subst ea_)); subst ec_; clear en_))
     have GB13 := Aside0.mk gb13
     have GG13 := Aside0.mk HG13
     clear gb13 gl13 HG13
     obtain ⟨hx13_0, hf13_0⟩ := Kd.R_celln 0 HO_5.out (x13_1 : Int) p13 q13
     replace p13 := eq_true p13
     replace q13 := eq_true q13
     have HP21 := Kd.R_putg HO_5.out (x13_1 : Int) ji11
     try go_wp2_with (first | ((with_reducible refine gate_store (t := 62) (p := 24) rfl ?_); refine store_event (t := 62) (p := 24) (v := ?vo_w22) (w1 := (wr.setCell ⟨go13, (x13_1 : Int).toNat, none⟩ (.int .u32 ji11))) ?hg ?ho ?hn ?hr ?_; (case ho => rfl); (case hg => rfl); (case hn => rfl); (case hr => first | (go_simp; done) | (go_simp; rfl)); intro w22 hw; have hg : wr.grownBy w22 (some go13) := (by rw [hw]; exact HP21.2); have hp_ : Kd.R (Kd.int .u32) 62 w22 w.heap.size (fun k_ => (w.heap.size ≤ k_)) (.slice (some ⟨go13, 0, none⟩) x5_1.length co13) y368 := (by rw [hw, Ny368.out]; exact HP21.1); clear HP21; refine ax2 hp_ ((by rw [hw]; exact below_set (HB.out) GB13.out : Below w.heap.size w w22)) ?_; clear HO_5; clear HB; intro HO_5 HB; clear hg hw hp_))
     refine ax2 (Kd.R_drew HO_5.out) (below_drew1 HB.out) ?_
     clear HO_5 HB
     intro HO_5 HB
     have p369 : 0 ≤ (x13_1 : Int) := of_decide_eq_true (by first | (with_reducible assumption) | assumption)
     have q369 : x13_1 < (y368.length : Int) := (by have h_ : (x13_1 : Int) < ((x5_1.length : Int) : Int) := of_decide_eq_true (by first | (with_reducible assumption) | assumption); first | (have e_ := (Kd.R_reads' HO_5.out).1; omega) | simpa only [Ny368.out, List.length_set] using h_)
     have ql369 : ((x13_1 : Int) < ((x5_1.length : Int) : Int)) = True := eq_true (of_decide_eq_true (by first | (with_reducible assumption) | assumption))
     obtain ⟨ad369, e369, hx369_0⟩ := Kd.at_int (Kd.R_reads' HO_5.out).2.2 x13_1 p369 q369
     obtain rfl : (⟨go13, 0, none⟩ : Addr) = ad369 := (by injection e369)
     (first | simp only [add_plain] at hx369_0 | simp only [add_at] at hx369_0 | simp only [Addr.add, Nat.zero_add] at hx369_0 | skip)
     replace p369 := eq_true p369
     replace q369 := eq_true q369
     have p370 : 0 ≤ ((ji15) : Int) := of_decide_eq_true (by first | (with_reducible assumption) | assumption)
     have q370 : (ji15) < (l0.length : Int) := of_decide_eq_true (by first | (with_reducible assumption) | assumption)
     obtain ⟨ad370, e370, hx370_0⟩ := Kd.at_int HR0.out (ji15) p370 q370
     have hw370_0 := hx370_0
     obtain rfl : ad367 = ad370 := (by injection e370)
     replace hx370_0 := (HB.out.cell (World.block_lt_of_cell? w _ hx370_0)).trans hx370_0
     replace p370 := eq_true p370
     replace q370 := eq_true q370
     have p20 : 0 ≤ (x13_1 : Int) := of_decide_eq_true (by first | (with_reducible assumption) | assumption)
     have q20 : (x13_1 : Int) < ((x5_1.length : Int) : Int) := of_decide_eq_true (by first | (with_reducible assumption) | assumption)
     obtain ⟨hx20_0, hf20_0⟩ := Kd.R_celln 0 HO_5.out (x13_1 : Int) p20 q20
     replace p20 := eq_true p20
     replace q20 := eq_true q20
     have HP24 := Kd.R_putn HO_5.out (x13_1 : Int) (Go.bits .or .u32 (rd y368 x13_1) (ji19))
     rw [← Ny371.out] at HP24
     have HQ24 := Aside0.mk HP24
     clear HP24
     refine start_ (n := 15) (S := fun w' => w'.cell? ⟨go13, (x13_1).toNat, none⟩ = some (.int .u32 (rd y368 x13_1)) ∧ w'.cell? (ad367.add ((ji15)).toNat) = some (.int .u32 (rd l0 (ji15)))) (ds := [14]) #[false, false, false, false, false, false, false, false, false, false, false, false, false, false, false] (by kernel_rfl) rfl rfl ⟨hx369_0, ((HB.out.cell (World.block_lt_of_cell? w _ hw370_0)).trans hw370_0)⟩ (fun hHeld => ?_); refine with_tabW dyad_down.tab7 dyad_down.bits7 (fun HT_ HW_ => ?_)
     generalize w22.drew = w23 at HO_5 HB HQ24 hf20_0 hx20_0 hx369_0 hx370_0 hHeld ⊢
     refine pu 0 30 (lm 15 1) HT_ ?_
     refine pu 1 31 (lm 15 3) HT_ ?_
     refine pu 2 32 (lm 15 7) HT_ ?_
     refine pu 4 34 (lm 15 23) HT_ ?_
     refine pu 5 35 (lm 15 55) HT_ ?_
     refine pu 6 36 (lm 15 119) HT_ ?_
     refine pu 7 37 (lm 15 247) HT_ ?_
     refine pu 9 39 (lm 15 759) HT_ ?_
     refine pu 10 40 (lm 15 1783) HT_ ?_
     refine ta 3 33 (lm 15 1791) HT_ HW_ hHeld ?_
     refine ta 8 38 (lm 15 2047) HT_ HW_ hHeld ?_
     refine pu 11 41 (lm 15 4095) HT_ ?_
     refine pu 12 42 (lm 15 8191) HT_ ?_
     refine pu 13 43 (lm 15 16383) HT_ ?_
     refine last_ (i := 14) (N := none) #[true, true, true, true, true, true, true, true, true, true, true, true, true, true, true] rfl rfl (one_of HT_.out (by kernel_rfl)) (by decide) (fun K hK => ?_)
     refine skip_ (w1 := ?_) (by rfl) rfl ?_ ?_
     rotate_left
     ·
      go_simp
      rfl
     refine hK.out _ _ ?_
     clear hK K
     refine done_ (done_of HT_.out (by kernel_rfl)) ?_
     try go_wp2
     go_roundg k1
     case measure => have := HK1.out; omega
     case rel => exact ⟨(y371), (ji15), (by first | rfl | (simp; done) | (simp only [← hji15] <;> (first | rfl | simp)) | (simp [*]; done)), H', ⟨by have := HK1.out; omega⟩, ⟨kr HQ24⟩, ⟨bes⟩⟩
    ·
     rw [if_neg c14] at H
     have c14b0 : decide ((wrap64 (x13_1 + 1)) < (l0.length : Int)) = false := decide_eq_false c14
     clear c14
     have H' := Aside0.mk H
     clear H
     have p367 : 0 ≤ (x13_1 : Int) := of_decide_eq_true (by first | (with_reducible assumption) | assumption)
     have q367 : x13_1 < (l0.length : Int) := of_decide_eq_true (by first | (with_reducible assumption) | assumption)
     obtain ⟨ad367, e367, hx367_0⟩ := Kd.at_int HR0.out x13_1 p367 q367
     cases e367
     replace hx367_0 := (HB.out.cell (World.block_lt_of_cell? w _ hx367_0)).trans hx367_0
     replace p367 := eq_true p367
     replace q367 := eq_true q367
     have p13 : 0 ≤ (x13_1 : Int) := of_decide_eq_true (by first | (with_reducible assumption) | assumption)
     have q13 : (x13_1 : Int) < ((x5_1.length : Int) : Int) := of_decide_eq_true (by first | (with_reducible assumption) | assumption)
     obtain ⟨go13, co13, eo13, gb13, gl13, cl13, HG13⟩ := Kd.R_form HO_5.out (by omega)
     (first | cases eo13 | (injection eo13 with ea_ en_ ec_; (first | subst ea_ | (injection ea_ with ea_; subst ea_)); subst ec_; clear en_))
     have GB13 := Aside0.mk gb13
     have GG13 := Aside0.mk HG13
     clear gb13 gl13 HG13
     obtain ⟨hx13_0, hf13_0⟩ := Kd.R_celln 0 HO_5.out (x13_1 : Int) p13 q13
     replace p13 := eq_true p13
     replace q13 := eq_true q13
     have HP25 := Kd.R_putg HO_5.out (x13_1 : Int) ji11
     go_wp2_with (first | ((with_reducible refine gate_store (t := 62) (p := 24) rfl ?_); refine store_event (t := 62) (p := 24) (v := ?vo_w26) (w1 := (wr.setCell ⟨go13, (x13_1 : Int).toNat, none⟩ (.int .u32 ji11))) ?hg ?ho ?hn ?hr ?_; (case ho => rfl); (case hg => rfl); (case hn => rfl); (case hr => first | (go_simp; done) | (go_simp; rfl)); intro w26 hw; have hg : wr.grownBy w26 (some go13) := (by rw [hw]; exact HP25.2); have hp_ : Kd.R (Kd.int .u32) 62 w26 w.heap.size (fun k_ => (w.heap.size ≤ k_)) (.slice (some ⟨go13, 0, none⟩) x5_1.length co13) y368 := (by rw [hw, Ny368.out]; exact HP25.1); clear HP25; refine ax2 hp_ ((by rw [hw]; exact below_set (HB.out) GB13.out : Below w.heap.size w w26)) ?_; clear HO_5; clear HB; intro HO_5 HB; clear hg hw hp_))
     go_roundg k1
     case measure => have := HK1.out; omega
     case rel => exact ⟨(y368), (wrap64 (x13_1 + 1)), (by first | rfl | (simp; done) | (simp [*]; done)), H', ⟨by have := HK1.out; omega⟩, ⟨kr HO_5⟩, ⟨bel⟩⟩
   ·
    rw [if_neg c7] at H
    have c7b0 : decide (x13_1 < (l0.length : Int)) = false := decide_eq_false c7
    clear c7
    by_cases c27 : (x5_1.length : Int) > 0
    rotate_left
    ·
     rw [if_neg c27] at H
     have c27b0 : decide (0 < (x5_1.length : Int)) = false := decide_eq_false c27
     have c27b1 : decide (0 < x5_1.length) = false := decide_eq_false (by omega)
     clear c27
     obtain rfl := Option.some.inj H
     obtain ⟨Ao37, co37, eo37⟩ := Kd.R_slice HO_5.out
     subst eo37
     go_wp2
     go_ret
     exact ⟨_, er, Kd.R_V (kr HO_5), bel⟩
    rw [if_pos c27] at H
    have c27b0 : decide (0 < (x5_1.length : Int)) = true := decide_eq_true c27
    have c27b1 : decide (0 < x5_1.length) = true := decide_eq_true (by omega)
    clear c27
    obtain ⟨ji28, hji28⟩ : ∃ j_ : Int, (wrap64 ((x5_1.length : Int) - 1)) = j_ := ⟨_, rfl⟩
    replace H : (if 0 ≤ (ji28) then (if (ji28) < (x5_1.length : Int) then (if (rd x5_1 (ji28)) = 0 then (if (ji28) ≤ (x5_1.length : Int) then (some (x5_1.take ((ji28) : Int).toNat)) else (none)) else (some x5_1)) else (none)) else (none)) = some r := by first | (rw [hji28] at H; exact H) | (simp only [hji28] at H ⊢; exact H)
    have hji28w : (IntKind.i64.wrap ((x5_1.length : Int) - 1)) = ji28 := (i64_w _).trans hji28
    by_cases c29 : 0 ≤ (ji28)
    rotate_left
    ·
     rw [if_neg c29] at H
     exact absurd H (by simp)
    rw [if_pos c29] at H
    have c29b0 : decide (0 ≤ (ji28)) = true := decide_eq_true c29
    clear c29
    by_cases c30 : (ji28) < (x5_1.length : Int)
    rotate_left
    ·
     rw [if_neg c30] at H
     exact absurd H (by simp)
    rw [if_pos c30] at H
    have c30b0 : decide ((ji28) < (x5_1.length : Int)) = true := decide_eq_true c30
    clear c30
    by_cases c31 : (rd x5_1 (ji28)) = 0
    ·
     rw [if_pos c31] at H
     have c31b0 : ((rd x5_1 (ji28)) == 0) = true := beq_iff_eq.mpr c31
     have c31b1 : ((rd x5_1 (ji28)) != 0) = false := bne_eq_false_iff_eq.mpr c31
     clear c31
     have c32b0 := eq_true (of_decide_eq_true (by first | (with_reducible assumption) | assumption) : 0 ≤ (ji28))
     by_cases c33 : (ji28) ≤ (x5_1.length : Int)
     rotate_left
     ·
      rw [if_neg c33] at H
      exact absurd H (by simp)
     rw [if_pos c33] at H
     have c33b0 := eq_true c33
     have c33b1 : decide ((ji28) ≤ (x5_1.length : Int)) = true := decide_eq_true c33
     clear c33
     obtain ⟨y373, hy373⟩ : ∃ y_ : List Int, y_ = (x5_1.take ((ji28) : Int).toNat) := ⟨_, rfl⟩
     replace H : (some y373) = some r := by first | (rw [hy373]; with_reducible exact H) | (have H2_ := (Option.bind_some _ _).symm.trans H; rw [hy373]; with_reducible exact H2_) | (have H2_ := (Option.bind_some _ _).symm.trans H; with_reducible exact H2_) | with_reducible exact H | (rw [hy373]; exact H) | exact H
     have Ny373 := Aside0.mk hy373
     clear hy373
     obtain rfl := Option.some.inj H
     obtain ⟨Ao34, co34, eo34⟩ := Kd.R_slice HO_5.out
     subst eo34
     have p372 : 0 ≤ ((ji28) : Int) := of_decide_eq_true (by first | (with_reducible assumption) | assumption)
     have q372 : (ji28) < (x5_1.length : Int) := of_decide_eq_true (by first | (with_reducible assumption) | assumption)
     obtain ⟨ad372, e372, hx372_0⟩ := Kd.at_int (Kd.R_reads' HO_5.out).2.2 (ji28) p372 q372
     cases e372
     replace p372 := eq_true p372
     replace q372 := eq_true q372
     have q35 : ((ji28) : Int) ≤ ((x5_1.length : Int) : Int) := of_decide_eq_true (by first | (with_reducible assumption) | assumption)
     obtain ⟨i035, hi035, _, hsz35, _⟩ := info_parts info62
     have hroom35 : x5_1.length ≤ co34 := (Kd.R_reads' HO_5.out).2.1
     have hC35 : Kd.F (Kd.int .u32) _ _ (some ad372) x5_1.length x5_1 := (Kd.V_at (base := w.heap.size) (Kd.R_V HO_5.out)).2.2
     have hcut35 := cut_to3 (P := Tryd.prog) 27 62 .i64 Tryd.underlying27 hi035 (some ad372) x5_1.length co34 (ji28) (of_decide_eq_true (by first | (with_reducible assumption) | assumption)) q35 hroom35
     have hr35 := Kd.F_take (m := ((ji28) : Int).toNat) hC35 (by omega)
     have hy35 : y373.length = ((ji28) : Int).toNat := (by rw [Ny373.out, List.length_take]; omega)
     rw [← Ny373.out] at hr35
     rw [← hy35] at hcut35
     have HO377 := Aside0.mk (show Kd.V (Kd.int .u32) 62 _ w.heap.size _ (.slice (some ad372) y373.length y373.length) y373 from Kd.V_mk (by omega) hr35)
     have HC377 := Aside0.mk (show y373.length ≤ y373.length from by omega)
     clear hr35 hC35 hroom35 hi035 hsz35
     have KY35 := Aside0.mk hy35
     clear hy35
     replace q35 := eq_true q35
     go_wp2
     go_ret
     exact ⟨_, by first | rfl | (simp [errW_none, errW_some] <;> rfl) | (simp only [← hji28]; first | rfl | (simp [errW_none, errW_some] <;> rfl)) | (simp [*, errW_none, errW_some] <;> rfl), kv HO377, bel⟩
    ·
     rw [if_neg c31] at H
     have c31b0 : ((rd x5_1 (ji28)) == 0) = false := beq_eq_false_iff_ne.mpr c31
     have c31b1 : ((rd x5_1 (ji28)) != 0) = true := bne_iff_ne.mpr c31
     obtain rfl := Option.some.inj H
     obtain ⟨Ao36, co36, eo36⟩ := Kd.R_slice HO_5.out
     subst eo36
     have p372 : 0 ≤ ((ji28) : Int) := of_decide_eq_true (by first | (with_reducible assumption) | assumption)
     have q372 : (ji28) < (x5_1.length : Int) := of_decide_eq_true (by first | (with_reducible assumption) | assumption)
     obtain ⟨ad372, e372, hx372_0⟩ := Kd.at_int (Kd.R_reads' HO_5.out).2.2 (ji28) p372 q372
     cases e372
     replace p372 := eq_true p372
     replace q372 := eq_true q372
     go_wp2
     go_ret
     exact ⟨_, by first | rfl | (simp [errW_none, errW_some] <;> rfl) | (simp only [← hji28]; first | rfl | (simp [errW_none, errW_some] <;> rfl)) | (simp [*, errW_none, errW_some] <;> rfl), Kd.R_V (kr HO_5), bel⟩
/-! ### dyad_trim: function 32 -/
mutual
def dyad_trim.j1 : Nat → Bool → List Int → Int → Int → Option (Bool × List Int × Int)
 | 0, _, _, _, _ => none
 | k + 1, x0, x1, x2, x7 => if 0 ≤ x7 then (if x7 ≤ (x1.length : Int) then (if x7 = 0 then (some (false, ([] : List Int), 0)) else (dyad_trim.l1 k x0 (x1.take (x7 : Int).toNat) x2 0)) else (none)) else (none)
def dyad_trim.l1 : Nat → Bool → List Int → Int → Int → Option (Bool × List Int × Int)
 | 0, _, _, _, _ => none
 | k + 1, x0, x1, x2, x8 => if 0 ≤ x8 then (if x8 < (x1.length : Int) then (if (rd x1 x8) = 0 then (dyad_trim.l1 k x0 x1 x2 (wrap64 (x8 + 1))) else (if x8 ≤ (x1.length : Int) then ((some (x1.drop (x8 : Int).toNat : List Int)).bind fun y386 => (if 0 < (y386.length : Int) then ((bits_TrailingZeros32.f (rd y386 0)).bind fun t392 => (if t392 > 0 then ((dyad_down.f k y386 t392).bind fun t393 => (some (x0, t393, wrap64 ((wrap64 (x2 + (wrap64 (32 * x8)))) + t392)))) else (some (x0, y386, wrap64 (x2 + (wrap64 (32 * x8))))))) else (none))) else (none))) else (none)) else (none)
def dyad_trim.l0 : Nat → Bool → List Int → Int → Int → Option (Bool × List Int × Int)
 | 0, _, _, _, _ => none
 | k + 1, x0, x1, x2, x7 => if x7 > 0 then (if 0 ≤ (wrap64 (x7 - 1)) then (if (wrap64 (x7 - 1)) < (x1.length : Int) then (if (rd x1 (wrap64 (x7 - 1))) = 0 then (dyad_trim.l0 k x0 x1 x2 (wrap64 (x7 - 1))) else (dyad_trim.j1 k x0 x1 x2 x7)) else (none)) else (none)) else (dyad_trim.j1 k x0 x1 x2 x7)
end
def dyad_trim.f (k : Nat) (a0 : Bool) (l1 : List Int) (a2 : Int) : Option (Bool × List Int × Int) := dyad_trim.l0 k a0 l1 a2 (l1.length : Int)
theorem dyad_trim.mono_l : ∀ k, (∀ y0 y1 y2 y3, LeO (dyad_trim.j1 k y0 y1 y2 y3) (dyad_trim.j1 (k + 1) y0 y1 y2 y3)) ∧ (∀ y0 y1 y2 y3, LeO (dyad_trim.l1 k y0 y1 y2 y3) (dyad_trim.l1 (k + 1) y0 y1 y2 y3)) ∧ (∀ y0 y1 y2 y3, LeO (dyad_trim.l0 k y0 y1 y2 y3) (dyad_trim.l0 (k + 1) y0 y1 y2 y3))
 | 0 => ⟨fun _ _ _ _ r h => by simp [dyad_trim.j1] at h, fun _ _ _ _ r h => by simp [dyad_trim.l1] at h, fun _ _ _ _ r h => by simp [dyad_trim.l0] at h⟩
 | k + 1 => by
  obtain ⟨ih0, ih1, ih2⟩ := dyad_trim.mono_l k
  refine ⟨?_, ?_, ?_⟩ <;> intros <;> (first | unfold dyad_trim.j1 | unfold dyad_trim.l1 | unfold dyad_trim.l0) <;>
   repeat' with_reducible first | apply ih0 | apply ih1 | apply ih2 | apply dyad_down.mono | exact LeO.refl _ | exact LeO.none _ | refine LeO.ite ?_ ?_ | refine LeO.bind ?_ (fun _ => ?_)
theorem dyad_trim.mono : ∀ a0 a1 a2 k, LeO (dyad_trim.f k a0 a1 a2) (dyad_trim.f (k + 1) a0 a1 a2) := by
 intro a0 a1 a2 k
 obtain ⟨ih0, ih1, ih2⟩ := dyad_trim.mono_l k
 unfold dyad_trim.f
 repeat' with_reducible first | apply ih0 | apply ih1 | apply ih2 | apply dyad_down.mono | exact LeO.refl _ | exact LeO.none _ | refine LeO.ite ?_ ?_ | refine LeO.bind ?_ (fun _ => ?_)
set_option maxHeartbeats 8000000 in
set_option maxRecDepth 100000 in
theorem dyad_trim.calls (k : Nat) (a0 : Bool) (P1_ : Nat → Prop) (A1 : Option Addr) (c1 : Nat) (l1 : List Int) (a2 : Int) (r1 : Bool) (r2 : List Int) (r3 : Int) (w : World) (hs1 : Kd.V (Kd.int .u32) 62 w w.heap.size (fun k_ => P1_ k_) (.slice A1 l1.length c1) l1) (hT : TabW w) (h : dyad_trim.f k a0 l1 a2 = some (r1, r2, r3)) :
  Calls Tryd.prog 32 #[.bool a0, .slice A1 l1.length c1, .int .i64 a2] w fun e w' => ∃ v1_ : Value, e = .returned (.agg #[.bool r1, v1_, .int .i64 r3]) ∧ Kd.V (Kd.int .u32) 62 w' w.heap.size (fun k_ => (P1_ k_ ∨ w.heap.size ≤ k_)) v1_ r2 ∧ Below w.heap.size w w' := by
 have hu29 := Tryd.underlying29
 have HO1 := Aside0.mk (show Kd.V (Kd.int .u32) 62 w w.heap.size (fun k_ => (P1_ k_ ∨ w.heap.size ≤ k_)) (.slice A1 l1.length c1) l1 from Kd.V_mono hs1 (fun k_ hk => .inl hk))
 have HB := Aside0.mk (Below.refl w.heap.size w)
 have H : (dyad_trim.l0 k a0 l1 a2 (l1.length : Int)) = some (r1, r2, r3) := h
 clear h
 have HC4 := Aside0.mk H
 clear H
 go_enter Tryd.func32, Tryd.ntmps32
 go_upto_block 0 with (first | ((with_reducible refine gate_dst (N := 6) rfl ?_); refine gbox (N := 6) (cs := #[.bool false, .slice none 0 0, .int .i64 0]) (t := 29) ?_; intro gb378 hg w5 hbox hb; refine ax5 (Kd.V_below (Kd.V_elderB (kv HO1) gb378 (Nat.le_of_eq hg.symm)) hb) (below_step bel hb) hbox ((ge hg : w.heap.size ≤ gb378)) ((ge hg : w.heap.size ≤ gb378)) ?_; clear HO1; clear HB; intro HO1 HB BK378 GW378 GE378; clear hb hbox hg))
 (try simp only [Act.put, sa0, sa1, sa2])
 go_cut [7] (fun v7 wc => ∃ (kq : Nat) (x7_3 : Int), v7 = .int .i64 x7_3 ∧ Aside0 (dyad_trim.j1 kq a0 l1 a2 x7_3 = some (r1, r2, r3)) ∧ Aside0 (kq ≤ k) ∧ Aside0 (Kd.V (Kd.int .u32) 62 wc w.heap.size (fun k_ => (P1_ k_ ∨ w.heap.size ≤ k_) ∧ k_ ≠ gb378) (.slice A1 l1.length c1) l1) ∧ Aside0 (wc.heap[gb378]? = some (.cells #[.bool false, (.slice none 0 0), .int .i64 0] 29 (0, 0))) ∧ Aside0 (Below w.heap.size w wc))
 case first =>
  have H := HC4.out
  clear HC4
  have H' := Aside0.mk H
  clear H
  go_wp2
  go_loopg [7] k (fun kq v7 w' => ∃ (x7_1 : Int), v7 = .int .i64 x7_1 ∧ Aside0 (dyad_trim.l0 kq a0 l1 a2 x7_1 = some (r1, r2, r3)) ∧ Aside0 (kq ≤ k) ∧ Aside0 (Kd.V (Kd.int .u32) 62 w' w.heap.size (fun k_ => (P1_ k_ ∨ w.heap.size ≤ k_) ∧ k_ ≠ gb378) (.slice A1 l1.length c1) l1) ∧ Aside0 (w'.heap[gb378]? = some (.cells #[.bool false, (.slice none 0 0), .int .i64 0] 29 (0, 0))) ∧ Aside0 (Below w.heap.size w w'))
  case atStart => exact ⟨((l1.length : Int)), (by first | rfl | (simp; done) | (simp [*]; done)), H', ⟨Nat.le_refl _⟩, ⟨kv HO1⟩, ⟨kb BK378⟩, ⟨bes⟩⟩
  case round =>
   clear H'
   try clear c1
   try clear p2
   try clear c3
   obtain ⟨x7_1, rfl, HA, HK1, HO_1, BK378, HB⟩ := hrel
   cases gk with
   | zero => exact absurd HA.out (by simp [dyad_trim.l0])
   | succ k1 =>
    have H := HA.out
    clear HA
    simp only [dyad_trim.l0] at H
    by_cases c6 : x7_1 > 0
    rotate_left
    ·
     rw [if_neg c6] at H
     have c6b0 : decide (0 < x7_1) = false := decide_eq_false c6
     clear c6
     (first | rw [c6b0] | (simp only [i64_w, i32_w]; rw [c6b0]) | skip)
     have H' := Aside0.mk H
     clear H
     go_wp2
     go_meet
     case rel => exact ⟨_, (x7_1), (by first | rfl | (simp; done) | (simp [*]; done)), H', ⟨by have := HK1.out; first | omega | exact Nat.le_refl _⟩, ⟨kv HO_1⟩, ⟨kb BK378⟩, ⟨bes⟩⟩
    rw [if_pos c6] at H
    have c6b0 : decide (0 < x7_1) = true := decide_eq_true c6
    clear c6
    (first | rw [c6b0] | (simp only [i64_w, i32_w]; rw [c6b0]) | skip)
    obtain ⟨ji7, hji7⟩ : ∃ j_ : Int, (wrap64 (x7_1 - 1)) = j_ := ⟨_, rfl⟩
    replace H : (if 0 ≤ (ji7) then (if (ji7) < (l1.length : Int) then (if (rd l1 (ji7)) = 0 then (dyad_trim.l0 k1 a0 l1 a2 ji7) else (dyad_trim.j1 k1 a0 l1 a2 x7_1)) else (none)) else (none)) = some (r1, r2, r3) := by first | (rw [hji7] at H; exact H) | (simp only [hji7] at H ⊢; exact H)
    have hji7w : (IntKind.i64.wrap (x7_1 - 1)) = ji7 := (i64_w _).trans hji7
    by_cases c8 : 0 ≤ (ji7)
    rotate_left
    ·
     rw [if_neg c8] at H
     exact absurd H (by simp)
    rw [if_pos c8] at H
    have c8b0 : decide (0 ≤ (ji7)) = true := decide_eq_true c8
    clear c8
    by_cases c9 : (ji7) < (l1.length : Int)
    rotate_left
    ·
     rw [if_neg c9] at H
     exact absurd H (by simp)
    rw [if_pos c9] at H
    have c9b0 : decide ((ji7) < (l1.length : Int)) = true := decide_eq_true c9
    clear c9
    by_cases c10 : (rd l1 (ji7)) = 0
    ·
     rw [if_pos c10] at H
     have c10b0 : ((rd l1 (ji7)) == 0) = true := beq_iff_eq.mpr c10
     have c10b1 : ((rd l1 (ji7)) != 0) = false := bne_eq_false_iff_eq.mpr c10
     clear c10
     have H' := Aside0.mk H
     clear H
     have p379 : 0 ≤ ((ji7) : Int) := of_decide_eq_true (by first | (with_reducible assumption) | assumption)
     have q379 : (ji7) < (l1.length : Int) := of_decide_eq_true (by first | (with_reducible assumption) | assumption)
     obtain ⟨ad379, e379, hx379_0⟩ := Kd.at_int (Kd.V_reads' HO_1.out).2.2 (ji7) p379 q379
     cases e379
     replace p379 := eq_true p379
     replace q379 := eq_true q379
     go_wp2
     go_roundg k1
     case measure => have := HK1.out; omega
     case rel => exact ⟨(ji7), (by first | rfl | (simp; done) | (simp only [← hji7] <;> (first | rfl | simp)) | (simp [*]; done)), H', ⟨by have := HK1.out; omega⟩, ⟨kv HO_1⟩, ⟨kb BK378⟩, ⟨bes⟩⟩
    ·
     rw [if_neg c10] at H
     have c10b0 : ((rd l1 (ji7)) == 0) = false := beq_eq_false_iff_ne.mpr c10
     have c10b1 : ((rd l1 (ji7)) != 0) = true := bne_iff_ne.mpr c10
     have H' := Aside0.mk H
     clear H
     have p379 : 0 ≤ ((ji7) : Int) := of_decide_eq_true (by first | (with_reducible assumption) | assumption)
     have q379 : (ji7) < (l1.length : Int) := of_decide_eq_true (by first | (with_reducible assumption) | assumption)
     obtain ⟨ad379, e379, hx379_0⟩ := Kd.at_int (Kd.V_reads' HO_1.out).2.2 (ji7) p379 q379
     cases e379
     replace p379 := eq_true p379
     replace q379 := eq_true q379
     go_wp2
     go_meet
     case rel => exact ⟨_, (x7_1), (by first | rfl | (simp; done) | (simp [*]; done)), H', ⟨by have := HK1.out; first | omega | exact Nat.le_refl _⟩, ⟨kv HO_1⟩, ⟨kb BK378⟩, ⟨bes⟩⟩
 case rest =>
  clear HC4
  try clear c1
  try clear p2
  try clear c3
  try clear p3
  try clear q3
  try clear hx3
  try clear c6
  try clear c6b0
  try clear p6
  try clear c8
  try clear c8b0
  try clear c9
  try clear c9b0
  try clear c10
  try clear c10b0
  try clear c10b1
  try clear hx379_0
  try clear p2
  try clear p379
  try clear q379
  obtain ⟨kq, x7_3, rfl, HA, HJ3, HO_1, BK378, HB⟩ := hcut
  cases kq with
  | zero => exact absurd HA.out (by simp [dyad_trim.j1])
  | succ kj3 =>
   have H := HA.out
   clear HA
   simp only [dyad_trim.j1] at H
   by_cases c11 : 0 ≤ x7_3
   rotate_left
   ·
    rw [if_neg c11] at H
    exact absurd H (by simp)

   rw [if_pos c11] at H
   have c11b0 := eq_true c11
   have c11b1 : decide (0 ≤ x7_3) = true := decide_eq_true c11
   clear c11
   by_cases c12 : x7_3 ≤ (l1.length : Int)
   rotate_left
   ·
    rw [if_neg c12] at H
    exact absurd H (by simp)
   rw [if_pos c12] at H
   have c12b0 := eq_true c12
   have c12b1 : decide (x7_3 ≤ (l1.length : Int)) = true := decide_eq_true c12
   clear c12
   obtain ⟨y380, hy380⟩ : ∃ y_ : List Int, y_ = (l1.take (x7_3 : Int).toNat) := ⟨_, rfl⟩
   replace H : (if x7_3 = 0 then (some (false, ([] : List Int), 0)) else (dyad_trim.l1 kj3 a0 y380 a2 0)) = some (r1, r2, r3) := by first | (rw [hy380]; with_reducible exact H) | (have H2_ := (Option.bind_some _ _).symm.trans H; rw [hy380]; with_reducible exact H2_) | (have H2_ := (Option.bind_some _ _).symm.trans H; with_reducible exact H2_) | with_reducible exact H | (rw [hy380]; exact H) | exact H
   have Ny380 := Aside0.mk hy380
   clear hy380
   by_cases c13 : x7_3 = 0
   ·
    rw [if_pos c13] at H
    have c13b0 : (x7_3 == 0) = true := beq_iff_eq.mpr c13
    have c13b1 : (x7_3 != 0) = false := bne_eq_false_iff_eq.mpr c13
    clear c13
    simp only [Option.some.injEq, Prod.mk.injEq] at H
    obtain ⟨rfl, rfl, rfl⟩ := H
    have q14 : (x7_3 : Int) ≤ ((l1.length : Int) : Int) := of_decide_eq_true (by first | (with_reducible assumption) | assumption)
    obtain ⟨i014, hi014, _, hsz14, _⟩ := info_parts info62
    have hroom14 : l1.length ≤ c1 := (Kd.V_reads' HO_1.out).2.1
    have hC14 : Kd.F (Kd.int .u32) _ _ A1 l1.length l1 := (Kd.V_at (base := w.heap.size) HO_1.out).2.2
    have hcut14 := cut_to (P := Tryd.prog) 27 62 .i64 Tryd.underlying27 hi014 A1 l1.length c1 x7_3 (of_decide_eq_true (by first | (with_reducible assumption) | assumption)) q14 hroom14
    have hr14 := Kd.F_take (m := (x7_3 : Int).toNat) hC14 (by omega)
    have hy14 : y380.length = (x7_3 : Int).toNat := (by rw [Ny380.out, List.length_take]; omega)
    rw [← Ny380.out] at hr14
    rw [← hy14] at hcut14
    have HO384 := Aside0.mk (show Kd.V (Kd.int .u32) 62 _ w.heap.size _ (.slice A1 y380.length c1) y380 from Kd.V_mk (by omega) hr14)
    have HC384 := Aside0.mk (show y380.length ≤ c1 from by omega)
    clear hr14 hC14 hroom14 hi014 hsz14
    have KY14 := Aside0.mk hy14
    clear hy14
    replace q14 := eq_true q14
    have hcz15_0 := bc BK378 0 rfl
    have hcz15_1 := bc BK378 1 rfl
    have hcz15_2 := bc BK378 2 rfl
    have hfz15_0 := blk_frozen BK378.out 0
    have hfz15_1 := blk_frozen BK378.out 1
    have hfz15_2 := blk_frozen BK378.out 2
    go_wp2
    refine bodyPost_ret (results_cell_row rfl _ _ gb378 29 #[.bool false, .slice none 0 0, .int .i64 0] (0, 0) _ rfl (bp BK378) Tryd.underlying29 rfl (by kernel_rfl)) rfl ?_
    exact ⟨_, er, Kd.V_nil _ _ _ _ _, bes⟩
   ·
    rw [if_neg c13] at H
    have c13b0 : (x7_3 == 0) = false := beq_eq_false_iff_ne.mpr c13
    have c13b1 : (x7_3 != 0) = true := bne_iff_ne.mpr c13
    have H' := Aside0.mk H
    clear H
    have q16 : (x7_3 : Int) ≤ ((l1.length : Int) : Int) := of_decide_eq_true (by first | (with_reducible assumption) | assumption)
    obtain ⟨i016, hi016, _, hsz16, _⟩ := info_parts info62
    have hroom16 : l1.length ≤ c1 := (Kd.V_reads' HO_1.out).2.1
    have hC16 : Kd.F (Kd.int .u32) _ _ A1 l1.length l1 := (Kd.V_at (base := w.heap.size) HO_1.out).2.2
    have hcut16 := cut_to (P := Tryd.prog) 27 62 .i64 Tryd.underlying27 hi016 A1 l1.length c1 x7_3 (of_decide_eq_true (by first | (with_reducible assumption) | assumption)) q16 hroom16
    have hr16 := Kd.F_take (m := (x7_3 : Int).toNat) hC16 (by omega)
    have hy16 : y380.length = (x7_3 : Int).toNat := (by rw [Ny380.out, List.length_take]; omega)
    rw [← Ny380.out] at hr16
    rw [← hy16] at hcut16
    have HO384 := Aside0.mk (show Kd.V (Kd.int .u32) 62 _ w.heap.size _ (.slice A1 y380.length c1) y380 from Kd.V_mk (by omega) hr16)
    have HC384 := Aside0.mk (show y380.length ≤ c1 from by omega)
    clear hr16 hC16 hroom16 hi016 hsz16
    have KY16 := Aside0.mk hy16
    clear hy16
    replace q16 := eq_true q16
    go_wp2
    go_loopg [8] kj3 (fun kq v8 w' => ∃ (x8_2 : Int), v8 = .int .i64 x8_2 ∧ Aside0 (dyad_trim.l1 kq a0 y380 a2 x8_2 = some (r1, r2, r3)) ∧ Aside0 (kq ≤ kj3) ∧ Aside0 (Kd.V (Kd.int .u32) 62 w' w.heap.size (fun k_ => (P1_ k_ ∨ w.heap.size ≤ k_) ∧ k_ ≠ gb378) (.slice A1 y380.length c1) y380) ∧ Aside0 (w'.heap[gb378]? = some (.cells #[.bool false, (.slice none 0 0), .int .i64 0] 29 (0, 0))) ∧ Aside0 (Below w.heap.size w w'))
    case atStart => exact ⟨(0), (by first | rfl | (simp; done) | (simp [*]; done)), H', ⟨Nat.le_refl _⟩, ⟨kv HO384⟩, ⟨kb BK378⟩, ⟨bes⟩⟩
    case round =>
     clear H'
     try clear c1
     try clear q1
     try clear p2
     try clear c3
     try clear p3
     try clear q3
     try clear hx3
     try clear c6
     try clear c6b0
     try clear p6
     try clear c8
     try clear c8b0
     try clear c9
     try clear c9b0
     try clear c10
     try clear c10b0
     try clear c10b1
     try clear c11
     try clear c11b0
     try clear c11b1
     try clear c12
     try clear c12b0
     try clear c12b1
     try clear c13
     try clear c13b0
     try clear c13b1
     try clear q14
     try clear q16
     try clear hcz15_0
     try clear hcz15_1
     try clear hcz15_2
     try clear hfz15_0
     try clear hfz15_1
     try clear hfz15_2
     try clear hx379_0
     try clear p2
     try clear p3
     try clear p379
     try clear p6
     try clear q14
     try clear q16
     try clear q3
     try clear q379
     obtain ⟨x8_2, rfl, HA, HK2, HO_1, BK378, HB⟩ := hrel
     cases gk with
     | zero => exact absurd HA.out (by simp [dyad_trim.l1])
     | succ k2 =>
      have H := HA.out
      clear HA
      simp only [dyad_trim.l1] at H
      by_cases c17 : 0 ≤ x8_2
      rotate_left
      ·
       rw [if_neg c17] at H
       exact absurd H (by simp)
      rw [if_pos c17] at H
      have c17b0 : decide (0 ≤ x8_2) = true := decide_eq_true c17
      clear c17
      by_cases c18 : x8_2 < (y380.length : Int)
      rotate_left
      ·
       rw [if_neg c18] at H
       exact absurd H (by simp)
      rw [if_pos c18] at H
      have c18b0 : decide (x8_2 < (y380.length : Int)) = true := decide_eq_true c18
      clear c18
      by_cases c19 : (rd y380 x8_2) = 0
      ·
       rw [if_pos c19] at H
       have c19b0 : ((rd y380 x8_2) == 0) = true := beq_iff_eq.mpr c19
       have c19b1 : ((rd y380 x8_2) != 0) = false := bne_eq_false_iff_eq.mpr c19
       clear c19
       have H' := Aside0.mk H
       clear H
       have p385 : 0 ≤ (x8_2 : Int) := of_decide_eq_true (by first | (with_reducible assumption) | assumption)
       have q385 : x8_2 < (y380.length : Int) := of_decide_eq_true (by first | (with_reducible assumption) | assumption)
       obtain ⟨ad385, e385, hx385_0⟩ := Kd.at_int (Kd.V_reads' HO_1.out).2.2 x8_2 p385 q385
       cases e385
       replace p385 := eq_true p385
       replace q385 := eq_true q385
       go_wp2
       go_roundg k2
       case measure => have := HJ3.out; have := HK2.out; omega
       case rel => exact ⟨(wrap64 (x8_2 + 1)), (by first | rfl | (simp; done) | (simp [*]; done)), H', ⟨by have := HJ3.out; have := HK2.out; omega⟩, ⟨kv HO_1⟩, ⟨kb BK378⟩, ⟨bes⟩⟩
      ·
       rw [if_neg c19] at H
       have c19b0 : ((rd y380 x8_2) == 0) = false := beq_eq_false_iff_ne.mpr c19
       have c19b1 : ((rd y380 x8_2) != 0) = true := bne_iff_ne.mpr c19
       have c20b0 := eq_true (of_decide_eq_true (by first | (with_reducible assumption) | assumption) : 0 ≤ x8_2)
       by_cases c21 : x8_2 ≤ (y380.length : Int)
       rotate_left
       ·
        rw [if_neg c21] at H
        exact absurd H (by simp)
       rw [if_pos c21] at H
       have c21b0 := eq_true c21
       have c21b1 : decide (x8_2 ≤ (y380.length : Int)) = true := decide_eq_true c21
       clear c21
       obtain ⟨y386, hy386⟩ : ∃ y_ : List Int, y_ = (y380.drop (x8_2 : Int).toNat) := ⟨_, rfl⟩
       replace H : (if 0 < (y386.length : Int) then ((bits_TrailingZeros32.f (rd y386 0)).bind fun t392 => (if t392 > 0 then ((dyad_down.f k2 y386 t392).bind fun t393 => (some (a0, t393, wrap64 ((wrap64 (a2 + (wrap64 (32 * x8_2)))) + t392)))) else (some (a0, y386, wrap64 (a2 + (wrap64 (32 * x8_2))))))) else (none)) = some (r1, r2, r3) := by first | (rw [hy386]; with_reducible exact H) | (have H2_ := (Option.bind_some _ _).symm.trans H; rw [hy386]; with_reducible exact H2_) | (have H2_ := (Option.bind_some _ _).symm.trans H; with_reducible exact H2_) | with_reducible exact H | (rw [hy386]; exact H) | exact H
       have Ny386 := Aside0.mk hy386
       clear hy386
       by_cases c22 : 0 < (y386.length : Int)
       rotate_left
       ·
        rw [if_neg c22] at H
        exact absurd H (by simp)
       rw [if_pos c22] at H
       have c22b0 : decide (0 < (y386.length : Int)) = true := decide_eq_true c22
       have c22b1 : decide (0 < y386.length) = true := decide_eq_true (by omega)
       clear c22
       obtain ⟨t392, A230, H⟩ := Option.bind_eq_some_iff.mp H
       (try dsimp -simprocs only at H)
       have A23 := Aside0.mk A230
       clear A230
       by_cases c24 : t392 > 0
       ·
        rw [if_pos c24] at H
        have c24b0 : decide (0 < t392) = true := decide_eq_true c24
        clear c24
        obtain ⟨t393, A250, H⟩ := Option.bind_eq_some_iff.mp H
        (try dsimp -simprocs only at H)
        have A25 := Aside0.mk A250
        clear A250
        simp only [Option.some.injEq, Prod.mk.injEq] at H
        obtain ⟨rfl, rfl, rfl⟩ := H
        have p385 : 0 ≤ (x8_2 : Int) := of_decide_eq_true (by first | (with_reducible assumption) | assumption)
        have q385 : x8_2 < (y380.length : Int) := of_decide_eq_true (by first | (with_reducible assumption) | assumption)
        obtain ⟨ad385, e385, hx385_0⟩ := Kd.at_int (Kd.V_reads' HO_1.out).2.2 x8_2 p385 q385
        cases e385
        replace p385 := eq_true p385
        replace q385 := eq_true q385
        have q26 : (x8_2 : Int) ≤ ((y380.length : Int) : Int) := of_decide_eq_true (by first | (with_reducible assumption) | assumption)
        obtain ⟨i026, hi026, _, hsz26, _⟩ := info_parts info62
        have hroom26 : y380.length ≤ c1 := (Kd.V_reads' HO_1.out).2.1
        have hC26 : Kd.F (Kd.int .u32) _ _ (some ad385) y380.length y380 := (Kd.V_at (base := w.heap.size) HO_1.out).2.2
        have q026 : (0 : Int) ≤ (x8_2 : Int) := of_decide_eq_true (by first | (with_reducible assumption) | assumption)
        have hcut26 := cut_from (P := Tryd.prog) 27 62 .i64 Tryd.underlying27 hi026 1 hsz26 (some ad385) y380.length c1 x8_2 q026 q26
        have hr26 := Kd.F_cut (m := (x8_2 : Int).toNat) (c := c1) hC26 (by omega) hroom26
        obtain ⟨A26, hA26⟩ : ∃ Az_, Az_ = (if c1 = (x8_2 : Int).toNat then (some ad385) else ((some ad385) : Option Addr).map (·.add ((x8_2 : Int).toNat * 1))) := ⟨_, rfl⟩
        obtain ⟨c26, hc26⟩ : ∃ cz_, cz_ = c1 - (x8_2 : Int).toNat := ⟨_, rfl⟩
        have hy26 : y386.length = y380.length - (x8_2 : Int).toNat := (by rw [Ny386.out, List.length_drop] <;> omega)
        rw [show (y380).drop (x8_2 : Int).toNat = y386 from Ny386.out.symm] at hr26
        replace hr26 : Kd.F (Kd.int .u32) _ _ A26 y386.length y386 := (by rw [hA26]; exact hr26)
        rw [← hy26, ← hA26, ← hc26] at hcut26
        have HO390 := Aside0.mk (show Kd.V (Kd.int .u32) 62 _ w.heap.size _ (.slice A26 y386.length c26) y386 from Kd.V_mk (by rw [hy26, hc26]; exact Nat.sub_le_sub_right hroom26 _) hr26)
        have HC390 := Aside0.mk (show y386.length ≤ c26 from by rw [hy26, hc26]; exact Nat.sub_le_sub_right hroom26 _)
        clear hr26 hC26 hroom26 hi026 hsz26 hc26
        have KY26 := Aside0.mk hy26
        have KA26 := Aside0.mk hA26
        clear hy26 hA26
        replace q26 := eq_true q26
        have p391 : 0 ≤ (0 : Int) := (by omega)
        have q391 : 0 < (y386.length : Int) := of_decide_eq_true (by first | (with_reducible assumption) | assumption)
        obtain ⟨ad391, e391, hx391_0⟩ := Kd.at_int (Kd.V_reads' HO390.out).2.2 0 p391 q391
        cases e391
        have qi391 : (0 < y386.length) = True := eq_true (by omega)
        (try rw [show ((0 : Int)).toNat = 0 from rfl] at hx391_0)
        (try rw [Addr.add_zero'] at hx391_0)
        replace p391 := eq_true p391
        replace q391 := eq_true q391
        go_wp2_with (first | ((with_reducible refine gate_callee (f := 50) rfl ?_); refine goesL_ (some 47) rfl rfl Tryd.func50 (by kernel_rfl) rfl #[.int .u32 (rd y386 0)] rfl ga ?_; (with_reducible refine (bits_TrailingZeros32.calls (rd y386 0) t392 _ ?side1 A23.out).mono ?_); (case side1 => first | exact hT | exact TabW.drewN hT _ | exact TabW.drew hT | exact TabW.below hT bes); rintro e w' ⟨rfl, ⟨nd, rfl⟩⟩; refine ⟨_, rfl, ?_⟩; (try (rw [drewN_self wr]; generalize hq_ : World.drewN wr _ = wr; have n0_ : Aside0 (Kd.V (Kd.int .u32) 62 wr w.heap.size (fun k_ => (P1_ k_ ∨ w.heap.size ≤ k_) ∧ k_ ≠ gb378) (.slice (some ad391) y386.length c26) y386) := ⟨by rw [← hq_]; exact (kv HO390)⟩; have n1_ : Aside0 (Kd.V (Kd.int .u32) 62 wr w.heap.size (fun k_ => (P1_ k_ ∨ w.heap.size ≤ k_) ∧ k_ ≠ gb378) (.slice (some ad385) y380.length c1) y380) := ⟨by rw [← hq_]; exact (kv HO_1)⟩; have n2_ : Aside0 (wr.heap[gb378]? = some (.cells #[.bool false, .slice none 0 0, .int .i64 0] 29 (0, 0))) := ⟨by rw [← hq_]; exact (kb BK378)⟩; have n3_ : Aside0 (Below w.heap.size w wr) := ⟨by rw [← hq_]; exact bes⟩; clear HO390 HO_1 BK378 HB hq_; have HO390 := n0_; have HO_1 := n1_; have BK378 := n2_; have HB := n3_; clear n0_ n1_ n2_ n3_))) | ((with_reducible refine gate_callee (f := 51) rfl ?_); refine goesL_ (some 52) rfl rfl Tryd.func51 (by kernel_rfl) rfl #[.slice (some ad391) y386.length c26, .int .i64 t392] rfl ga ?_; (with_reducible refine (dyad_down.calls k2 _ _ y386 t392 t393 _ ?side1 ?side2 A25.out).mono ?_); (case side1 => exact kvs HO390); (case side2 => exact (Kd.V_reads' HO390.out).2.1); rintro e w27 ⟨v394, rfl, ho0, hb⟩; refine ⟨_, rfl, ?_⟩; refine ax5 (Kd.V_below (kv HO_1) hb) (Kd.V_below (kv HO390) hb) (Kd.V_lower (Kd.V_mono (ok' := fun k_ => (P1_ k_ ∨ w.heap.size ≤ k_) ∧ k_ ≠ gb378) ho0 (fun k_ hk_ => ⟨(.inr (Nat.le_trans (below_size bes) hk_)), (fb BK378 k_ hk_)⟩)) (below_size bes)) (bb BK378 hb) (below_step bes hb) ?_; clear HO_1; clear HO390; clear BK378; clear HB; intro HO_1 HO390 HO395 BK378 HB; (try clear hb); (try clear ho0); obtain ⟨Ao28, co28, eo28⟩ := Kd.V_slice HO395.out; subst eo28; have hcz29_0 := bc BK378 0 rfl; have hcz29_1 := bc BK378 1 rfl; have hcz29_2 := bc BK378 2 rfl; have hfz29_0 := blk_frozen BK378.out 0; have hfz29_1 := blk_frozen BK378.out 1; have hfz29_2 := blk_frozen BK378.out 2))
        refine bodyPost_ret (results_cell_row rfl _ _ gb378 29 #[.bool a0, .slice Ao28 t393.length co28, .int .i64 (wrap64 ((wrap64 (a2 + (wrap64 (32 * x8_2)))) + t392))] (0, 0) _ rfl (bp BK378) Tryd.underlying29 rfl (by kernel_rfl)) rfl ?_
        exact ⟨_, er, by (with_reducible repeat (first | apply Kd.V_alloc | apply Kd.V_drewN | apply Kd.V_drew)); exact Kd.V_mono (Kd.V_far (p := ⟨gb378, 2, none⟩) (Kd.V_far (p := ⟨gb378, 1, none⟩) (Kd.V_far (p := ⟨gb378, 0, none⟩) (Kd.V_mono HO395.out (fun k_ hk => (⟨hk, hk.2⟩ : _ ∧ k_ ≠ gb378))) (fun _ hk => hk.2) (.bool a0)) (fun _ hk => hk.2) (.slice Ao28 t393.length co28)) (fun _ hk => hk.2) (.int .i64 (wrap64 ((wrap64 (a2 + (wrap64 (32 * x8_2)))) + t392)))) (fun _ hk => hk.1.1), bes⟩
       ·
        rw [if_neg c24] at H
        have c24b0 : decide (0 < t392) = false := decide_eq_false c24
        clear c24
        simp only [Option.some.injEq, Prod.mk.injEq] at H
        obtain ⟨rfl, rfl, rfl⟩ := H
        have p385 : 0 ≤ (x8_2 : Int) := of_decide_eq_true (by first | (with_reducible assumption) | assumption)
        have q385 : x8_2 < (y380.length : Int) := of_decide_eq_true (by first | (with_reducible assumption) | assumption)
        obtain ⟨ad385, e385, hx385_0⟩ := Kd.at_int (Kd.V_reads' HO_1.out).2.2 x8_2 p385 q385
        cases e385
        replace p385 := eq_true p385
        replace q385 := eq_true q385
        have q30 : (x8_2 : Int) ≤ ((y380.length : Int) : Int) := of_decide_eq_true (by first | (with_reducible assumption) | assumption)
        obtain ⟨i030, hi030, _, hsz30, _⟩ := info_parts info62
        have hroom30 : y380.length ≤ c1 := (Kd.V_reads' HO_1.out).2.1
        have hC30 : Kd.F (Kd.int .u32) _ _ (some ad385) y380.length y380 := (Kd.V_at (base := w.heap.size) HO_1.out).2.2
        have q030 : (0 : Int) ≤ (x8_2 : Int) := of_decide_eq_true (by first | (with_reducible assumption) | assumption)
        have hcut30 := cut_from (P := Tryd.prog) 27 62 .i64 Tryd.underlying27 hi030 1 hsz30 (some ad385) y380.length c1 x8_2 q030 q30
        have hr30 := Kd.F_cut (m := (x8_2 : Int).toNat) (c := c1) hC30 (by omega) hroom30
        obtain ⟨A30, hA30⟩ : ∃ Az_, Az_ = (if c1 = (x8_2 : Int).toNat then (some ad385) else ((some ad385) : Option Addr).map (·.add ((x8_2 : Int).toNat * 1))) := ⟨_, rfl⟩
        obtain ⟨c30, hc30⟩ : ∃ cz_, cz_ = c1 - (x8_2 : Int).toNat := ⟨_, rfl⟩
        have hy30 : y386.length = y380.length - (x8_2 : Int).toNat := (by rw [Ny386.out, List.length_drop] <;> omega)
        rw [show (y380).drop (x8_2 : Int).toNat = y386 from Ny386.out.symm] at hr30
        replace hr30 : Kd.F (Kd.int .u32) _ _ A30 y386.length y386 := (by rw [hA30]; exact hr30)
        rw [← hy30, ← hA30, ← hc30] at hcut30
        have HO390 := Aside0.mk (show Kd.V (Kd.int .u32) 62 _ w.heap.size _ (.slice A30 y386.length c30) y386 from Kd.V_mk (by rw [hy30, hc30]; exact Nat.sub_le_sub_right hroom30 _) hr30)
        have HC390 := Aside0.mk (show y386.length ≤ c30 from by rw [hy30, hc30]; exact Nat.sub_le_sub_right hroom30 _)
        clear hr30 hC30 hroom30 hi030 hsz30 hc30
        have KY30 := Aside0.mk hy30
        have KA30 := Aside0.mk hA30
        clear hy30 hA30
        replace q30 := eq_true q30
        have p391 : 0 ≤ (0 : Int) := (by omega)
        have q391 : 0 < (y386.length : Int) := of_decide_eq_true (by first | (with_reducible assumption) | assumption)
        obtain ⟨ad391, e391, hx391_0⟩ := Kd.at_int (Kd.V_reads' HO390.out).2.2 0 p391 q391
        cases e391
        have qi391 : (0 < y386.length) = True := eq_true (by omega)
        (try rw [show ((0 : Int)).toNat = 0 from rfl] at hx391_0)
        (try rw [Addr.add_zero'] at hx391_0)
        replace p391 := eq_true p391
        replace q391 := eq_true q391
        go_wp2_with (first | ((with_reducible refine gate_callee (f := 50) rfl ?_); refine goesL_ (some 47) rfl rfl Tryd.func50 (by kernel_rfl) rfl #[.int .u32 (rd y386 0)] rfl ga ?_; (with_reducible refine (bits_TrailingZeros32.calls (rd y386 0) t392 _ ?side1 A23.out).mono ?_); (case side1 => first | exact hT | exact TabW.drewN hT _ | exact TabW.drew hT | exact TabW.below hT bes); rintro e w' ⟨rfl, ⟨nd, rfl⟩⟩; refine ⟨_, rfl, ?_⟩; (try (rw [drewN_self wr]; generalize hq_ : World.drewN wr _ = wr; have n0_ : Aside0 (Kd.V (Kd.int .u32) 62 wr w.heap.size (fun k_ => (P1_ k_ ∨ w.heap.size ≤ k_) ∧ k_ ≠ gb378) (.slice (some ad391) y386.length c30) y386) := ⟨by rw [← hq_]; exact (kv HO390)⟩; have n1_ : Aside0 (Kd.V (Kd.int .u32) 62 wr w.heap.size (fun k_ => (P1_ k_ ∨ w.heap.size ≤ k_) ∧ k_ ≠ gb378) (.slice (some ad385) y380.length c1) y380) := ⟨by rw [← hq_]; exact (kv HO_1)⟩; have n2_ : Aside0 (wr.heap[gb378]? = some (.cells #[.bool false, .slice none 0 0, .int .i64 0] 29 (0, 0))) := ⟨by rw [← hq_]; exact (kb BK378)⟩; have n3_ : Aside0 (Below w.heap.size w wr) := ⟨by rw [← hq_]; exact bes⟩; clear HO390 HO_1 BK378 HB hq_; have HO390 := n0_; have HO_1 := n1_; have BK378 := n2_; have HB := n3_; clear n0_ n1_ n2_ n3_)); have hcz31_0 := bc BK378 0 rfl; have hcz31_1 := bc BK378 1 rfl; have hcz31_2 := bc BK378 2 rfl; have hfz31_0 := blk_frozen BK378.out 0; have hfz31_1 := blk_frozen BK378.out 1; have hfz31_2 := blk_frozen BK378.out 2))
        refine bodyPost_ret (results_cell_row rfl _ _ gb378 29 #[.bool a0, .slice (some ad391) y386.length c30, .int .i64 (wrap64 (a2 + (wrap64 (32 * x8_2))))] (0, 0) _ rfl (bp BK378) Tryd.underlying29 rfl (by kernel_rfl)) rfl ?_
        exact ⟨_, er, by (with_reducible repeat (first | apply Kd.V_alloc | apply Kd.V_drewN | apply Kd.V_drew)); exact Kd.V_mono (Kd.V_far (p := ⟨gb378, 2, none⟩) (Kd.V_far (p := ⟨gb378, 1, none⟩) (Kd.V_far (p := ⟨gb378, 0, none⟩) (Kd.V_mono HO390.out (fun k_ hk => (⟨hk, hk.2⟩ : _ ∧ k_ ≠ gb378))) (fun _ hk => hk.2) (.bool a0)) (fun _ hk => hk.2) (.slice (some ad391) y386.length c30)) (fun _ hk => hk.2) (.int .i64 (wrap64 (a2 + (wrap64 (32 * x8_2)))))) (fun _ hk => hk.1.1), bes⟩
/-! ### dyad_Int: function 8 -/
def dyad_Int.f (k : Nat) (a0 : Int) : Option (Bool × List Int × Int) := if a0 < 0 then ((dyad_trim.f k (decide (a0 < 0)) (([(IntKind.u64.wrap (-(IntKind.u64.wrap (a0)))) % 4294967296, ((IntKind.u64.wrap (-(IntKind.u64.wrap (a0)))) / 4294967296) % 4294967296] : List Int)) 0).bind fun bt400 => (some (bt400.1, bt400.2.1, bt400.2.2))) else ((dyad_trim.f k (decide (a0 < 0)) (([(IntKind.u64.wrap (a0)) % 4294967296, ((IntKind.u64.wrap (a0)) / 4294967296) % 4294967296] : List Int)) 0).bind fun bt408 => (some (bt408.1, bt408.2.1, bt408.2.2)))
theorem dyad_Int.mono : ∀ a0 k, LeO (dyad_Int.f k a0) (dyad_Int.f (k + 1) a0) := by
 intro a0 k
 unfold dyad_Int.f
 repeat' with_reducible first | apply dyad_trim.mono | exact LeO.refl _ | exact LeO.none _ | refine LeO.ite ?_ ?_ | refine LeO.bind ?_ (fun _ => ?_)
set_option maxHeartbeats 8000000 in
set_option maxRecDepth 100000 in
theorem dyad_Int.calls (k : Nat) (a0 : Int) (r1 : Bool) (r2 : List Int) (r3 : Int) (w : World) (hT : TabW w) (h : dyad_Int.f k a0 = some (r1, r2, r3)) :
  Calls Tryd.prog 8 #[.int .i64 a0] w fun e w' => ∃ v1_ : Value, e = .returned (.agg #[.bool r1, v1_, .int .i64 r3]) ∧ Kd.V (Kd.int .u32) 62 w' w.heap.size (fun k_ => (w.heap.size ≤ k_)) v1_ r2 ∧ Below w.heap.size w w' := by
 have hu29 := Tryd.underlying29
 have HB := Aside0.mk (Below.refl w.heap.size w)
 have H : (if a0 < 0 then ((dyad_trim.f k (decide (a0 < 0)) (([(IntKind.u64.wrap (-(IntKind.u64.wrap (a0)))) % 4294967296, ((IntKind.u64.wrap (-(IntKind.u64.wrap (a0)))) / 4294967296) % 4294967296] : List Int)) 0).bind fun bt400 => (some (bt400.1, bt400.2.1, bt400.2.2))) else ((dyad_trim.f k (decide (a0 < 0)) (([(IntKind.u64.wrap (a0)) % 4294967296, ((IntKind.u64.wrap (a0)) / 4294967296) % 4294967296] : List Int)) 0).bind fun bt408 => (some (bt408.1, bt408.2.1, bt408.2.2)))) = some (r1, r2, r3) := h
 clear h
 by_cases c2 : a0 < 0
 ·
  rw [if_pos c2] at H
  have c2b0 : decide (a0 < 0) = true := decide_eq_true c2
  clear c2
  obtain ⟨y397, hy397⟩ : ∃ y_ : List Int, y_ = (([(IntKind.u64.wrap (-(IntKind.u64.wrap (a0)))) % 4294967296, ((IntKind.u64.wrap (-(IntKind.u64.wrap (a0)))) / 4294967296) % 4294967296] : List Int)) := ⟨_, rfl⟩
  replace H : ((dyad_trim.f k (decide (a0 < 0)) y397 0).bind fun bt400 => (some (bt400.1, bt400.2.1, bt400.2.2))) = some (r1, r2, r3) := by first | (rw [hy397]; with_reducible exact H) | (have H2_ := (Option.bind_some _ _).symm.trans H; rw [hy397]; with_reducible exact H2_) | (have H2_ := (Option.bind_some _ _).symm.trans H; with_reducible exact H2_) | with_reducible exact H | (rw [hy397]; exact H) | exact H
  have Ny397 := Aside0.mk hy397
  clear hy397
  obtain ⟨⟨t400, t401, t404⟩, A30, H⟩ := Option.bind_eq_some_iff.mp H
  (try dsimp -simprocs only at H)
  have A3 := Aside0.mk A30
  clear A30
  simp only [Option.some.injEq, Prod.mk.injEq] at H
  obtain ⟨rfl, rfl, rfl⟩ := H
  go_enter Tryd.func8, Tryd.ntmps8
  go_wp2_with (first | ((with_reducible refine gate_dst (N := 2) rfl ?_); refine gbox (N := 2) (cs := #[.bool false, .slice none 0 0, .int .i64 0]) (t := 29) ?_; intro gb396 hg w4 hbox hb; refine ax4 (below_step bel hb) hbox ((ge hg : w.heap.size ≤ gb396)) ((ge hg : w.heap.size ≤ gb396)) ?_; clear HB; intro HB BK396 GW396 GE396; clear hb hbox hg) | ((with_reducible refine gate_dst (N := 17) rfl ?_); refine Kd.R_lit (Kd.int .u32) _ 62 ?hg (N := 17) ?hd (xs := ([(IntKind.u64.wrap (-(IntKind.u64.wrap (a0)))) % 4294967296, ((IntKind.u64.wrap (-(IntKind.u64.wrap (a0)))) / 4294967296) % 4294967296] : List Int)) (inner := [.int .u32 ((IntKind.u64.wrap (-(IntKind.u64.wrap (a0)))) % 4294967296), .int .u32 (((IntKind.u64.wrap (-(IntKind.u64.wrap (a0)))) / 4294967296) % 4294967296)]) (ok := fun _ => True) (okp := fun _ => True) ?hr ?hp (fun _ hk => hk) trivial (Below.refl _ _) (Nat.le_refl _) (by simp) ?_; (case hd => rfl); (case hg => rfl); (case hr => first | (go_simp; done) | (go_simp; rfl)); (case hp => exact (Reps.one (show Kd.M (Kd.int .u32) _ _ _ ((IntKind.u64.wrap (-(IntKind.u64.wrap (a0)))) % 4294967296) [.int .u32 ((IntKind.u64.wrap (-(IntKind.u64.wrap (a0)))) % 4294967296)] from rfl) (Reps.one (show Kd.M (Kd.int .u32) _ _ _ (((IntKind.u64.wrap (-(IntKind.u64.wrap (a0)))) / 4294967296) % 4294967296) [.int .u32 (((IntKind.u64.wrap (-(IntKind.u64.wrap (a0)))) / 4294967296) % 4294967296)] from rfl) (Reps.none _ _)))); intro v398 w5 ho6 hb hg_ hnew_; clear hg_ hnew_; (first | rw [← Ny397.out] at ho6 | (simp only [Int.reduceToNat] at ho6; rw [← Ny397.out] at ho6)); refine ax3 (Kd.R_lower (Kd.R_newM (M := fun k_ => (w.heap.size ≤ k_)) ho6 (below_size bes) (fun k_ h_ => h_)) (below_size bes)) (bb BK396 hb) (below_step bes hb) ?_; clear BK396; clear HB; intro HO399 BK396 HB; clear hb ho6; obtain ⟨Ao7, co7, eo7⟩ := Kd.R_slice HO399.out; subst eo7) | ((with_reducible refine gate_callee (f := 32) rfl ?_); refine goesL_ (some 18) rfl rfl Tryd.func32 (by kernel_rfl) rfl #[.bool (decide (a0 < 0)), .slice Ao7 y397.length co7, .int .i64 0] rfl (by (try simp only [List.map_toArray, List.map_cons, List.map_nil]); first | done | rfl | (rw [show (decide (a0 < 0)) = true from by assumption]; rfl) | (rw [show (decide (a0 < 0)) = false from by assumption]; rfl) | (simp only [List.length_drop, List.length_take]; rfl)) ?_; (with_reducible refine (dyad_trim.calls k (decide (a0 < 0)) (fun k_ => some k_ = (.slice Ao7 y397.length co7 : Value).ownBlock) _ _ y397 0 t400 t401 t404 _ ?side1 ?side2 A3.out).mono ?_); (case side1 => exact Kd.R_V (Kd.R_tight rfl (Kd.R_types (HO399.out) BK396.out (by decide)))); (case side2 => first | exact hT | exact TabW.drewN hT _ | exact TabW.drew hT | exact TabW.below hT bes); rintro e w8 ⟨v402, rfl, ho0, hb⟩; refine ⟨_, rfl, ?_⟩; refine ax4 (Kd.R_below (kr HO399) hb) (Kd.V_lower (Kd.V_mono (ok' := fun k_ => (w.heap.size ≤ k_) ∧ k_ ≠ gb396) ho0 (fun k_ hk_ => ⟨Or.elim hk_ (fun hs_ => ((Kd.R_types (HO399.out) BK396.out (by decide)).1 k_ hs_.symm).1.1) (fun hn_ => (Nat.le_trans (below_size bes) hn_)), Or.elim hk_ (fun hs_ => ((Kd.R_types (HO399.out) BK396.out (by decide)).1 k_ hs_.symm).2) (fun hn_ => (fb BK396 k_ hn_))⟩)) (below_size bes)) (bb BK396 hb) (below_step bes hb) ?_; clear HO399; clear BK396; clear HB; intro HO399 HO403 BK396 HB; (try clear hb); (try clear ho0); have hcz9_0 := bc BK396 0 rfl; have hcz9_1 := bc BK396 1 rfl; have hcz9_2 := bc BK396 2 rfl; have hfz9_0 := blk_frozen BK396.out 0; have hfz9_1 := blk_frozen BK396.out 1; have hfz9_2 := blk_frozen BK396.out 2; obtain ⟨Ao10, co10, eo10⟩ := Kd.V_slice HO403.out; subst eo10))
  refine bodyPost_ret (results_cell_row rfl _ _ gb396 29 #[.bool t400, .slice Ao10 t401.length co10, .int .i64 t404] (0, 0) _ rfl (bp BK396) Tryd.underlying29 rfl (by kernel_rfl)) rfl ?_
  exact ⟨_, er, by (with_reducible repeat (first | apply Kd.V_alloc | apply Kd.V_drewN | apply Kd.V_drew)); exact Kd.V_mono (Kd.V_far (p := ⟨gb396, 2, none⟩) (Kd.V_far (p := ⟨gb396, 1, none⟩) (Kd.V_far (p := ⟨gb396, 0, none⟩) (Kd.V_mono HO403.out (fun k_ hk => (⟨hk, hk.2⟩ : _ ∧ k_ ≠ gb396))) (fun _ hk => hk.2) (.bool t400)) (fun _ hk => hk.2) (.slice Ao10 t401.length co10)) (fun _ hk => hk.2) (.int .i64 t404)) (fun _ hk => hk.1.1), bes⟩
 ·
  rw [if_neg c2] at H
  have c2b0 : decide (a0 < 0) = false := decide_eq_false c2
  clear c2
  obtain ⟨y405, hy405⟩ : ∃ y_ : List Int, y_ = (([(IntKind.u64.wrap (a0)) % 4294967296, ((IntKind.u64.wrap (a0)) / 4294967296) % 4294967296] : List Int)) := ⟨_, rfl⟩
  replace H : ((dyad_trim.f k (decide (a0 < 0)) y405 0).bind fun bt408 => (some (bt408.1, bt408.2.1, bt408.2.2))) = some (r1, r2, r3) := by first | (rw [hy405]; with_reducible exact H) | (have H2_ := (Option.bind_some _ _).symm.trans H; rw [hy405]; with_reducible exact H2_) | (have H2_ := (Option.bind_some _ _).symm.trans H; with_reducible exact H2_) | with_reducible exact H | (rw [hy405]; exact H) | exact H
  have Ny405 := Aside0.mk hy405
  clear hy405
  obtain ⟨⟨t408, t409, t412⟩, A110, H⟩ := Option.bind_eq_some_iff.mp H
  (try dsimp -simprocs only at H)
  have A11 := Aside0.mk A110
  clear A110
  simp only [Option.some.injEq, Prod.mk.injEq] at H
  obtain ⟨rfl, rfl, rfl⟩ := H
  go_enter Tryd.func8, Tryd.ntmps8
  go_wp2_with (first | ((with_reducible refine gate_dst (N := 2) rfl ?_); refine gbox (N := 2) (cs := #[.bool false, .slice none 0 0, .int .i64 0]) (t := 29) ?_; intro gb396 hg w12 hbox hb; refine ax4 (below_step bel hb) hbox ((ge hg : w.heap.size ≤ gb396)) ((ge hg : w.heap.size ≤ gb396)) ?_; clear HB; intro HB BK396 GW396 GE396; clear hb hbox hg) | ((with_reducible refine gate_dst (N := 17) rfl ?_); refine Kd.R_lit (Kd.int .u32) _ 62 ?hg (N := 17) ?hd (xs := ([(IntKind.u64.wrap (a0)) % 4294967296, ((IntKind.u64.wrap (a0)) / 4294967296) % 4294967296] : List Int)) (inner := [.int .u32 ((IntKind.u64.wrap (a0)) % 4294967296), .int .u32 (((IntKind.u64.wrap (a0)) / 4294967296) % 4294967296)]) (ok := fun _ => True) (okp := fun _ => True) ?hr ?hp (fun _ hk => hk) trivial (Below.refl _ _) (Nat.le_refl _) (by simp) ?_; (case hd => rfl); (case hg => rfl); (case hr => first | (go_simp; done) | (go_simp; rfl)); (case hp => exact (Reps.one (show Kd.M (Kd.int .u32) _ _ _ ((IntKind.u64.wrap (a0)) % 4294967296) [.int .u32 ((IntKind.u64.wrap (a0)) % 4294967296)] from rfl) (Reps.one (show Kd.M (Kd.int .u32) _ _ _ (((IntKind.u64.wrap (a0)) / 4294967296) % 4294967296) [.int .u32 (((IntKind.u64.wrap (a0)) / 4294967296) % 4294967296)] from rfl) (Reps.none _ _)))); intro v406 w13 ho14 hb hg_ hnew_; clear hg_ hnew_; (first | rw [← Ny405.out] at ho14 | (simp only [Int.reduceToNat] at ho14; rw [← Ny405.out] at ho14)); refine ax3 (Kd.R_lower (Kd.R_newM (M := fun k_ => (w.heap.size ≤ k_)) ho14 (below_size bes) (fun k_ h_ => h_)) (below_size bes)) (bb BK396 hb) (below_step bes hb) ?_; clear BK396; clear HB; intro HO407 BK396 HB; clear hb ho14; obtain ⟨Ao15, co15, eo15⟩ := Kd.R_slice HO407.out; subst eo15) | ((with_reducible refine gate_callee (f := 32) rfl ?_); refine goesL_ (some 18) rfl rfl Tryd.func32 (by kernel_rfl) rfl #[.bool (decide (a0 < 0)), .slice Ao15 y405.length co15, .int .i64 0] rfl (by (try simp only [List.map_toArray, List.map_cons, List.map_nil]); first | done | rfl | (rw [show (decide (a0 < 0)) = true from by assumption]; rfl) | (rw [show (decide (a0 < 0)) = false from by assumption]; rfl) | (simp only [List.length_drop, List.length_take]; rfl)) ?_; (with_reducible refine (dyad_trim.calls k (decide (a0 < 0)) (fun k_ => some k_ = (.slice Ao15 y405.length co15 : Value).ownBlock) _ _ y405 0 t408 t409 t412 _ ?side1 ?side2 A11.out).mono ?_); (case side1 => exact Kd.R_V (Kd.R_tight rfl (Kd.R_types (HO407.out) BK396.out (by decide)))); (case side2 => first | exact hT | exact TabW.drewN hT _ | exact TabW.drew hT | exact TabW.below hT bes); rintro e w16 ⟨v410, rfl, ho0, hb⟩; refine ⟨_, rfl, ?_⟩; refine ax4 (Kd.R_below (kr HO407) hb) (Kd.V_lower (Kd.V_mono (ok' := fun k_ => (w.heap.size ≤ k_) ∧ k_ ≠ gb396) ho0 (fun k_ hk_ => ⟨Or.elim hk_ (fun hs_ => ((Kd.R_types (HO407.out) BK396.out (by decide)).1 k_ hs_.symm).1.1) (fun hn_ => (Nat.le_trans (below_size bes) hn_)), Or.elim hk_ (fun hs_ => ((Kd.R_types (HO407.out) BK396.out (by decide)).1 k_ hs_.symm).2) (fun hn_ => (fb BK396 k_ hn_))⟩)) (below_size bes)) (bb BK396 hb) (below_step bes hb) ?_; clear HO407; clear BK396; clear HB; intro HO407 HO411 BK396 HB; (try clear hb); (try clear ho0); have hcz17_0 := bc BK396 0 rfl; have hcz17_1 := bc BK396 1 rfl; have hcz17_2 := bc BK396 2 rfl; have hfz17_0 := blk_frozen BK396.out 0; have hfz17_1 := blk_frozen BK396.out 1; have hfz17_2 := blk_frozen BK396.out 2; obtain ⟨Ao18, co18, eo18⟩ := Kd.V_slice HO411.out; subst eo18))
  refine bodyPost_ret (results_cell_row rfl _ _ gb396 29 #[.bool t408, .slice Ao18 t409.length co18, .int .i64 t412] (0, 0) _ rfl (bp BK396) Tryd.underlying29 rfl (by kernel_rfl)) rfl ?_
  exact ⟨_, er, by (with_reducible repeat (first | apply Kd.V_alloc | apply Kd.V_drewN | apply Kd.V_drew)); exact Kd.V_mono (Kd.V_far (p := ⟨gb396, 2, none⟩) (Kd.V_far (p := ⟨gb396, 1, none⟩) (Kd.V_far (p := ⟨gb396, 0, none⟩) (Kd.V_mono HO411.out (fun k_ hk => (⟨hk, hk.2⟩ : _ ∧ k_ ≠ gb396))) (fun _ hk => hk.2) (.bool t408)) (fun _ hk => hk.2) (.slice Ao18 t409.length co18)) (fun _ hk => hk.2) (.int .i64 t412)) (fun _ hk => hk.1.1), bes⟩

end Go.Proofs.YtnjobojkoaknpaaDoor.F
