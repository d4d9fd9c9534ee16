-- Written by a program of this seat's session (mkprint), out of the translation.
import Derived.Test.YtakegikedpcilaaDoorShort
import Derived.Test.YtakegikedpcilaaDoorFx0
import Derived.Test.YtakegikedpcilaaDoorFx2
import Derived.Test.YtakegikedpcilaaDoorFx4
import Derived.Test.YtakegikedpcilaaDoorFx8
namespace Go.Proofs.YtakegikedpcilaaDoor.F
open Go.RowKit Go.Proofs.YtakegikedpcilaaDoorW.PrintWords Go.Proofs.YtakegikedpcilaaDoorW.PrintLast Go.Proofs.YtakegikedpcilaaDoorW.PrintMore
attribute [local go_sem] max2_int min2_int max_two min_two max_three min_three max_four min_four   -- for this text's walks alone
set_option linter.unusedVariables false
set_option linter.unusedSimpArgs false

/-! ### dyad_Num_Up: function 31 -/
def dyad_Num_Up.j0 : Nat → Int → Bool → Bool → Option (Int)
 | 0, _, _, _ => none
 | k + 1, x3, x6, x23 => if x23 = true then ((word_Next.f k x3).bind fun t343 => (some t343)) else (if x6 = true then (some x3) else ((word_Neg.f x3).bind fun t344 => (if t344 = true then ((word_Flip.f 9218868437227405311).bind fun t345 => (some t345)) else (some x3))))
def dyad_Num_Up.f (k : Nat) (a0_0 : Bool) (l0_1 : List Int) (a0_2 : Int) : Option (Int) := (dyad_Num_Near.f k a0_0 l0_1 a0_2).bind fun bt333 => ((dyad_Of.f k bt333.1).bind fun bt335 => (if bt335.2.2.2 = true then ((dyad_Num_Cmp.f k bt335.1 bt335.2.1 bt335.2.2.1 a0_0 l0_1 a0_2).bind fun t342 => (dyad_Num_Up.j0 k bt333.1 bt335.2.2.2 (decide (t342 < 0)))) else (dyad_Num_Up.j0 k bt333.1 bt335.2.2.2 false)))
theorem dyad_Num_Up.mono_l : ∀ k, (∀ y0 y1 y2, LeO (dyad_Num_Up.j0 k y0 y1 y2) (dyad_Num_Up.j0 (k + 1) y0 y1 y2))
 | 0 => fun _ _ _ r h => by simp [dyad_Num_Up.j0] at h
 | k + 1 => by
  have ih0 := dyad_Num_Up.mono_l k
  ·
   intro y0 y1 y2
   unfold dyad_Num_Up.j0
   repeat' with_reducible first | apply ih0 | apply dyad_Num_Cmp.mono | apply dyad_Num_Near.mono | apply dyad_Of.mono | apply word_Next.mono | exact LeO.refl _ | exact LeO.none _ | refine LeO.ite ?_ ?_ | refine LeO.bind ?_ (fun _ => ?_)
theorem dyad_Num_Up.mono : ∀ a0 a1 a2 k, LeO (dyad_Num_Up.f k a0 a1 a2) (dyad_Num_Up.f (k + 1) a0 a1 a2) := by
 intro a0 a1 a2 k
 have ih0 := dyad_Num_Up.mono_l k
 unfold dyad_Num_Up.f
 repeat' with_reducible first | apply ih0 | apply dyad_Num_Cmp.mono | apply dyad_Num_Near.mono | apply dyad_Of.mono | apply word_Next.mono | exact LeO.refl _ | exact LeO.none _ | refine LeO.ite ?_ ?_ | refine LeO.bind ?_ (fun _ => ?_)
set_option maxHeartbeats 8000000 in
set_option maxRecDepth 100000 in
theorem dyad_Num_Up.calls (k : Nat) (a0_0 : Bool) (A0_1 : Option Addr) (c0_1 : Nat) (l0_1 : List Int) (a0_2 : Int) (r : Int) (w : World) (hr0_1 : Kd.C (Kd.int .u32) w A0_1 l0_1.length l0_1) (hc0_1 : l0_1.length ≤ c0_1) (hT : TabW w) (h : dyad_Num_Up.f k a0_0 l0_1 a0_2 = some r) :
  Calls Tryd.prog 31 #[.agg #[.bool a0_0, .slice A0_1 l0_1.length c0_1, .int .i64 a0_2]] w fun e w' => e = .returned (.int .u64 r) ∧ Below w.heap.size w w' := by
 have hu26 := Tryd.underlying26
 have HR0_1 := Aside0.mk hr0_1
 have HC0_1 := Aside0.mk hc0_1
 clear hr0_1 hc0_1
 have HB := Aside0.mk (Below.refl w.heap.size w)
 have H : ((dyad_Num_Near.f k a0_0 l0_1 a0_2).bind fun bt333 => ((dyad_Of.f k bt333.1).bind fun bt335 => (if bt335.2.2.2 = true then ((dyad_Num_Cmp.f k bt335.1 bt335.2.1 bt335.2.2.1 a0_0 l0_1 a0_2).bind fun t342 => (dyad_Num_Up.j0 k bt333.1 bt335.2.2.2 (decide (t342 < 0)))) else (dyad_Num_Up.j0 k bt333.1 bt335.2.2.2 false)))) = some r := h
 clear h
 obtain ⟨⟨t333, t334⟩, A20, H⟩ := Option.bind_eq_some_iff.mp H
 (try dsimp -simprocs only at H)
 have A2 := Aside0.mk A20
 clear A20
 obtain ⟨⟨t335, t336, t339, t340⟩, A30, H⟩ := Option.bind_eq_some_iff.mp H
 (try dsimp -simprocs only at H)
 have A3 := Aside0.mk A30
 clear A30
 have HC4 := Aside0.mk H
 clear H
 go_enter Tryd.func31, Tryd.ntmps31
 go_upto_region 3 with (first | ((with_reducible refine gate_dst (N := 1) rfl ?_); refine gbox (N := 1) (cs := #[.bool a0_0, .slice A0_1 l0_1.length c0_1, .int .i64 a0_2]) (t := 26) ?_; intro gb332 hg w5 hbox hb; refine ax4 (below_step bel hb) hbox ((ge hg : w.heap.size ≤ gb332)) ((ge hg : w.heap.size ≤ gb332)) ?_; clear HB; intro HB BK332 GW332 GE332; clear hb hbox hg; have hcz6_0 := bc BK332 0 rfl; have hcz6_1 := bc BK332 1 rfl; have hcz6_2 := bc BK332 2 rfl; have hfz6_0 := blk_frozen BK332.out 0; have hfz6_1 := blk_frozen BK332.out 1; have hfz6_2 := blk_frozen BK332.out 2) | ((with_reducible refine gate_callee (f := 12) rfl ?_); refine goesL_ (some 9) rfl rfl Tryd.func12 (by kernel_rfl) rfl #[.agg #[.bool a0_0, .slice A0_1 l0_1.length c0_1, .int .i64 a0_2]] rfl ga ?_; (with_reducible refine (dyad_Num_Near.calls k a0_0 _ _ l0_1 a0_2 t333 t334 _ ?side1 ?side2 A2.out).mono ?_); (case side1 => repeat (first | exact (Kd.C_below HR0_1.out HB.out) | (with_reducible refine Kd.C_alloc ?_ _) | (with_reducible refine Kd.C_drewN ?_ _) | (with_reducible refine Kd.C_drew ?_))); (case side2 => exact HC0_1.out); rintro e w7 ⟨rfl, hb⟩; refine ⟨_, rfl, ?_⟩; refine ax2 (bb BK332 hb) (below_step bes hb) ?_; clear BK332; clear HB; intro BK332 HB; (try clear hb)) | ((with_reducible refine gate_callee (f := 8) rfl ?_); refine goesL_ (some 14) rfl rfl Tryd.func8 (by kernel_rfl) rfl #[.int .u64 t333] rfl ga ?_; (with_reducible refine (dyad_Of.calls k t333 t335 t336 t339 t340 _ ?side1 A3.out).mono ?_); (case side1 => first | exact hT | exact TabW.drewN hT _ | exact TabW.drew hT | exact TabW.below hT bes); rintro e w8 ⟨v337, rfl, ho0, hb⟩; refine ⟨_, rfl, ?_⟩; refine ax3 (Kd.V_lower (Kd.V_mono (ok' := fun k_ => k_ ≠ gb332) ho0 (fun k_ hk_ => (fb BK332 k_ hk_))) (below_size bes)) (bb BK332 hb) (below_step bes hb) ?_; clear BK332; clear HB; intro HO338 BK332 HB; (try clear hb); (try clear ho0)) | ((with_reducible refine gate_dst (N := 5) rfl ?_); refine gbox (N := 5) (cs := #[.bool false, .slice none 0 0, .int .i64 0]) (t := 26) ?_; intro gb341 hg w9 hbox hb; refine ax8 (Kd.V_below (Kd.V_elderB (kv HO338) gb341 (Nat.le_of_eq hg.symm)) hb) (bb BK332 hb) (below_step bes hb) hbox ((ge hg : w.heap.size ≤ gb341)) ((ge hg : w.heap.size ≤ gb341)) (nl hg BK332) (ng hg BK332) ?_; clear HO338; clear BK332; clear HB; intro HO338 BK332 HB BK341 GW341 GE341 NB332_341 NB341_332; clear hb hbox hg; have hnb10 := NB341_332.out; have hnc10 := NB332_341.out; have hcz11_0 := bc BK341 0 rfl; have hcz11_1 := bc BK341 1 rfl; have hcz11_2 := bc BK341 2 rfl; have hfz11_0 := blk_frozen BK341.out 0; have hfz11_1 := blk_frozen BK341.out 1; have hfz11_2 := blk_frozen BK341.out 2; obtain ⟨Ao12, co12, eo12⟩ := Kd.V_slice HO338.out; subst eo12))
 (try simp only [Act.put, sa0, sa1, sa2])
 go_cut [23] (fun v23 wc => ∃ (kq : Nat) (x23_3 : Bool), v23 = .bool x23_3 ∧ Aside0 (dyad_Num_Up.j0 kq t333 t340 x23_3 = some r) ∧ Aside0 (kq ≤ k) ∧ Aside0 (Kd.V (Kd.int .u32) 56 wc w.heap.size (fun k_ => k_ ≠ gb332 ∧ k_ ≠ gb341) (.slice Ao12 t336.length co12) t336) ∧ Aside0 (wc.heap[gb332]? = some (.cells #[.bool a0_0, (.slice A0_1 l0_1.length c0_1), .int .i64 a0_2] 26 (0, 0))) ∧ Aside0 (wc.heap[gb341]? = some (.cells #[.bool t335, (.slice Ao12 t336.length co12), .int .i64 t339] 26 (0, 0))) ∧ Aside0 (Below w.heap.size w wc))
 case first =>
  have H := HC4.out
  clear HC4
  by_cases c13 : t340 = true
  rotate_left
  ·
   replace c13 := Bool.eq_false_iff.mpr c13
   subst c13
   rw [if_neg (show ¬ (false = true) by decide)] at H
   have H' := Aside0.mk H
   clear H
   go_wp2
   go_meet
   case rel => exact ⟨_, (false), (by first | rfl | (simp; done) | (simp [*]; done)), H', ⟨by first | omega | exact Nat.le_refl _⟩, ⟨by (with_reducible repeat (first | apply Kd.V_alloc | apply Kd.V_drewN | apply Kd.V_drew)); exact Kd.V_mono (Kd.V_far (p := ⟨gb341, 2, none⟩) (Kd.V_far (p := ⟨gb341, 1, none⟩) (Kd.V_far (p := ⟨gb341, 0, none⟩) (Kd.V_mono HO338.out (fun k_ hk => (⟨hk, hk.2⟩ : _ ∧ k_ ≠ gb341))) (fun _ hk => hk.2) (.bool t335)) (fun _ hk => hk.2) (.slice Ao12 t336.length co12)) (fun _ hk => hk.2) (.int .i64 t339)) (fun _ hk => ⟨hk.1.1, hk.1.2⟩)⟩, ⟨by (with_reducible repeat (first | refine blk_drewN ?_ _ | refine blk_drew ?_ | refine blk_alloc ?_ _)); refine blk_far ?_ NB332_341.out _; (with_reducible repeat (first | refine blk_drewN ?_ _ | refine blk_drew ?_ | refine blk_alloc ?_ _)); refine blk_far ?_ NB332_341.out _; (with_reducible repeat (first | refine blk_drewN ?_ _ | refine blk_drew ?_ | refine blk_alloc ?_ _)); refine blk_far ?_ NB332_341.out _; (with_reducible repeat (first | refine blk_drewN ?_ _ | refine blk_drew ?_ | refine blk_alloc ?_ _)); exact BK332.out⟩, ⟨by (with_reducible repeat (first | refine blk_drewN ?_ _ | refine blk_drew ?_ | refine blk_alloc ?_ _)); refine blk_put (cs := #[.bool t335, .slice Ao12 t336.length co12, .int .i64 0]) ?_ 2 _ rfl; (with_reducible repeat (first | refine blk_drewN ?_ _ | refine blk_drew ?_ | refine blk_alloc ?_ _)); refine blk_put (cs := #[.bool t335, .slice none 0 0, .int .i64 0]) ?_ 1 _ rfl; (with_reducible repeat (first | refine blk_drewN ?_ _ | refine blk_drew ?_ | refine blk_alloc ?_ _)); refine blk_put (cs := #[.bool false, .slice none 0 0, .int .i64 0]) ?_ 0 _ rfl; (with_reducible repeat (first | refine blk_drewN ?_ _ | refine blk_drew ?_ | refine blk_alloc ?_ _)); exact BK341.out⟩, ⟨bes⟩⟩
  subst c13
  rw [if_pos rfl] at H
  obtain ⟨t342, A140, H⟩ := Option.bind_eq_some_iff.mp H
  (try dsimp -simprocs only at H)
  have A14 := Aside0.mk A140
  clear A140
  have H' := Aside0.mk H
  clear H
  have hnb15 := NB341_332.out
  have hnc15 := NB332_341.out
  have hcz16_0 := bc BK341 0 rfl
  have hcz16_1 := bc BK341 1 rfl
  have hcz16_2 := bc BK341 2 rfl
  have hfz16_0 := blk_frozen BK341.out 0
  have hfz16_1 := blk_frozen BK341.out 1
  have hfz16_2 := blk_frozen BK341.out 2
  have hcz17_0 := bc BK332 0 rfl
  have hcz17_1 := bc BK332 1 rfl
  have hcz17_2 := bc BK332 2 rfl
  have hfz17_0 := blk_frozen BK332.out 0
  have hfz17_1 := blk_frozen BK332.out 1
  have hfz17_2 := blk_frozen BK332.out 2
  go_wp2_with (first | (go_at_call 29; (with_reducible refine (dyad_Num_Cmp.calls k t335 _ _ t336 t339 a0_0 _ _ l0_1 a0_2 t342 _ ?side1 ?side2 ?side3 ?side4 ?side5 A14.out).mono ?_); (case side1 => refine (Kd.V_reads' (e := 56) (base := w.heap.size) (ok := fun k_ => (k_ ≠ gb332 ∧ k_ ≠ gb341)) (n := t336.length) (c := co12) ?_).2.2; exact (by (with_reducible repeat (first | apply Kd.V_alloc | apply Kd.V_drewN | apply Kd.V_drew)); exact (Kd.V_mono (Kd.V_far (p := ⟨gb341, 2, none⟩) (Kd.V_far (p := ⟨gb341, 1, none⟩) (Kd.V_far (p := ⟨gb341, 0, none⟩) (Kd.V_mono HO338.out (fun k_ hk => (⟨hk, hk.2⟩ : _ ∧ k_ ≠ gb341))) (fun _ hk => hk.2) (.bool t335)) (fun _ hk => hk.2) (.slice Ao12 t336.length co12)) (fun _ hk => hk.2) (.int .i64 t339)) (fun _ h_ => h_.1)))); (case side2 => exact (Kd.V_reads' HO338.out).2.1); (case side3 => exact Kd.C_below HR0_1.out bes); (case side4 => exact HC0_1.out); (case side5 => first | exact hT | exact TabW.drewN hT _ | exact TabW.drew hT | exact TabW.below hT bes); rintro e w18 ⟨rfl, hb⟩; refine ax4 (Kd.V_below (by (with_reducible repeat (first | apply Kd.V_alloc | apply Kd.V_drewN | apply Kd.V_drew)); exact (Kd.V_mono (Kd.V_far (p := ⟨gb341, 2, none⟩) (Kd.V_far (p := ⟨gb341, 1, none⟩) (Kd.V_far (p := ⟨gb341, 0, none⟩) (Kd.V_mono HO338.out (fun k_ hk => (⟨hk, hk.2⟩ : _ ∧ k_ ≠ gb341))) (fun _ hk => hk.2) (.bool t335)) (fun _ hk => hk.2) (.slice Ao12 t336.length co12)) (fun _ hk => hk.2) (.int .i64 t339)) (fun _ h_ => h_.1))) hb) (blk_below (g := gb332) (o := .cells #[.bool a0_0, .slice A0_1 l0_1.length c0_1, .int .i64 a0_2] 26 (0, 0)) (by (with_reducible repeat (first | refine blk_drewN ?_ _ | refine blk_drew ?_ | refine blk_alloc ?_ _)); refine blk_far ?_ NB332_341.out _; (with_reducible repeat (first | refine blk_drewN ?_ _ | refine blk_drew ?_ | refine blk_alloc ?_ _)); refine blk_far ?_ NB332_341.out _; (with_reducible repeat (first | refine blk_drewN ?_ _ | refine blk_drew ?_ | refine blk_alloc ?_ _)); refine blk_far ?_ NB332_341.out _; (with_reducible repeat (first | refine blk_drewN ?_ _ | refine blk_drew ?_ | refine blk_alloc ?_ _)); exact BK332.out) hb) (blk_below (g := gb341) (o := .cells #[.bool t335, .slice Ao12 t336.length co12, .int .i64 t339] 26 (0, 0)) (by (with_reducible repeat (first | refine blk_drewN ?_ _ | refine blk_drew ?_ | refine blk_alloc ?_ _)); refine blk_put (cs := #[.bool t335, .slice Ao12 t336.length co12, .int .i64 0]) ?_ 2 _ rfl; (with_reducible repeat (first | refine blk_drewN ?_ _ | refine blk_drew ?_ | refine blk_alloc ?_ _)); refine blk_put (cs := #[.bool t335, .slice none 0 0, .int .i64 0]) ?_ 1 _ rfl; (with_reducible repeat (first | refine blk_drewN ?_ _ | refine blk_drew ?_ | refine blk_alloc ?_ _)); refine blk_put (cs := #[.bool false, .slice none 0 0, .int .i64 0]) ?_ 0 _ rfl; (with_reducible repeat (first | refine blk_drewN ?_ _ | refine blk_drew ?_ | refine blk_alloc ?_ _)); exact BK341.out) hb) (below_step bes hb) ?_; clear HO338; clear BK332; clear BK341; clear HB; intro HO338 BK332 BK341 HB; (try clear hb)))
  go_meet
  case rel => exact ⟨_, (decide (t342 < 0)), (by first | rfl | (simp; done) | (simp [*]; done)), H', ⟨by first | omega | exact Nat.le_refl _⟩, ⟨kv HO338⟩, ⟨kb BK332⟩, ⟨kb BK341⟩, ⟨bes⟩⟩
 case rest =>
  clear HC4
  try clear c1
  try clear p2
  try clear c3
  try clear c8
  try clear c10
  try clear c12
  try clear c13
  try clear c15
  try clear hcz11_0
  try clear hcz11_1
  try clear hcz11_2
  try clear hcz16_0
  try clear hcz16_1
  try clear hcz16_2
  try clear hcz17_0
  try clear hcz17_1
  try clear hcz17_2
  try clear hcz6_0
  try clear hcz6_1
  try clear hcz6_2
  try clear hfz11_0
  try clear hfz11_1
  try clear hfz11_2
  try clear hfz16_0
  try clear hfz16_1
  try clear hfz16_2
  try clear hfz17_0
  try clear hfz17_1
  try clear hfz17_2
  try clear hfz6_0
  try clear hfz6_1
  try clear hfz6_2
  obtain ⟨kq, x23_3, rfl, HA, HJ3, HO_342001, BK332, BK341, HB⟩ := hcut
  cases kq with
  | zero => exact absurd HA.out (by simp [dyad_Num_Up.j0])
  | succ kj3 =>
   have H := HA.out
   clear HA
   simp only [dyad_Num_Up.j0] at H
   by_cases c19 : x23_3 = true
   ·
    subst c19
    rw [if_pos rfl] at H
    obtain ⟨t343, A200, H⟩ := Option.bind_eq_some_iff.mp H
    (try dsimp -simprocs only at H)
    have A20 := Aside0.mk A200
    clear A200
    obtain rfl := Option.some.inj H
    go_wp2_with (first | ((with_reducible refine gate_callee (f := 32) rfl ?_); refine goesL_ (some 25) rfl rfl Tryd.func32 (by kernel_rfl) rfl #[.int .u64 t333] rfl ga ?_; (with_reducible refine (word_Next.calls kj3 t333 t343 _ A20.out).mono ?_); rintro e w' ⟨rfl, ⟨nd, rfl⟩⟩; refine ⟨_, rfl, ?_⟩))
    go_ret
    exact ⟨er, bes⟩
   ·
    replace c19 := Bool.eq_false_iff.mpr c19
    subst c19
    rw [if_neg (show ¬ (false = true) by decide)] at H
    by_cases c21 : t340 = true
    ·
     subst c21
     rw [if_pos rfl] at H
     obtain rfl := Option.some.inj H
     go_wp2
     go_ret
     exact ⟨er, bes⟩
    ·
     replace c21 := Bool.eq_false_iff.mpr c21
     subst c21
     rw [if_neg (show ¬ (false = true) by decide)] at H
     obtain ⟨t344, A220, H⟩ := Option.bind_eq_some_iff.mp H
     (try dsimp -simprocs only at H)
     have A22 := Aside0.mk A220
     clear A220
     by_cases c23 : t344 = true
     rotate_left
     ·
      replace c23 := Bool.eq_false_iff.mpr c23
      subst c23
      rw [if_neg (show ¬ (false = true) by decide)] at H
      obtain rfl := Option.some.inj H
      go_wp2_with (first | (go_at_call 17; (with_reducible refine (word_Neg.calls t333 false _ A22.out).mono ?_); rintro e w' ⟨rfl, ⟨nd, rfl⟩⟩))
      go_ret
      exact ⟨er, bes⟩

     subst c23
     rw [if_pos rfl] at H
     obtain ⟨t345, A240, H⟩ := Option.bind_eq_some_iff.mp H
     (try dsimp -simprocs only at H)
     have A24 := Aside0.mk A240
     clear A240
     obtain rfl := Option.some.inj H
     go_wp2_with (first | (go_at_call 17; (with_reducible refine (word_Neg.calls t333 true _ A22.out).mono ?_); rintro e w' ⟨rfl, ⟨nd, rfl⟩⟩) | ((with_reducible refine gate_callee (f := 56) rfl ?_); refine goesL_ (some 32) rfl rfl Tryd.func56 (by kernel_rfl) rfl #[.int .u64 9218868437227405311] rfl ga ?_; (with_reducible refine (word_Flip.calls 9218868437227405311 t345 _ A24.out).mono ?_); rintro e w' ⟨rfl, ⟨nd, rfl⟩⟩; refine ⟨_, rfl, ?_⟩))
     go_ret
     exact ⟨er, bes⟩
/-! ### gimballaw07_head: function 7 -/
def gimballaw07_head.f (k : Nat)  : Option (Bool) := (gimballaw07_of.f k 4607182418800017408).bind fun bt346 => ((dyad_Two.f (-60)).bind fun bt351 => ((dyad_Num_Add.f k bt346.1 bt346.2.1 bt346.2.2 bt351.1 bt351.2.1 bt351.2.2).bind fun bt356 => ((dyad_Num_Near.f k bt356.1 bt356.2.1 bt356.2.2).bind fun bt362 => (if bt362.1 = 4607182418800017408 then (if bt362.2 = 1 then ((dyad_Num_Up.f k bt356.1 bt356.2.1 bt356.2.2).bind fun t364 => ((word_Next.f k 4607182418800017408).bind fun t365 => (some (t364 == t365)))) else (some false)) else (some false)))))
theorem gimballaw07_head.mono : ∀ k, LeO (gimballaw07_head.f k ) (gimballaw07_head.f (k + 1) ) := by
 intro  k
 unfold gimballaw07_head.f
 repeat' with_reducible first | apply dyad_Num_Add.mono | apply dyad_Num_Near.mono | apply dyad_Num_Up.mono | apply gimballaw07_of.mono | apply word_Next.mono | exact LeO.refl _ | exact LeO.none _ | refine LeO.ite ?_ ?_ | refine LeO.bind ?_ (fun _ => ?_)
set_option maxHeartbeats 8000000 in
set_option maxRecDepth 100000 in
theorem gimballaw07_head.calls (k : Nat)  (r : Bool) (w : World) (hT : TabW w) (h : gimballaw07_head.f k  = some r) :
  Calls Tryd.prog 7 #[] w fun e w' => e = .returned (.bool r) ∧ Below w.heap.size w w' := by
 have hu26 := Tryd.underlying26
 have HB := Aside0.mk (Below.refl w.heap.size w)
 have H : ((gimballaw07_of.f k 4607182418800017408).bind fun bt346 => ((dyad_Two.f (-60)).bind fun bt351 => ((dyad_Num_Add.f k bt346.1 bt346.2.1 bt346.2.2 bt351.1 bt351.2.1 bt351.2.2).bind fun bt356 => ((dyad_Num_Near.f k bt356.1 bt356.2.1 bt356.2.2).bind fun bt362 => (if bt362.1 = 4607182418800017408 then (if bt362.2 = 1 then ((dyad_Num_Up.f k bt356.1 bt356.2.1 bt356.2.2).bind fun t364 => ((word_Next.f k 4607182418800017408).bind fun t365 => (some (t364 == t365)))) else (some false)) else (some false)))))) = some r := h
 clear h
 obtain ⟨⟨t346, t347, t350⟩, A10, H⟩ := Option.bind_eq_some_iff.mp H
 (try dsimp -simprocs only at H)
 have A1 := Aside0.mk A10
 clear A10
 obtain ⟨⟨t351, t352, t355⟩, A20, H⟩ := Option.bind_eq_some_iff.mp H
 (try dsimp -simprocs only at H)
 have A2 := Aside0.mk A20
 clear A20
 obtain ⟨⟨t356, t357, t360⟩, A30, H⟩ := Option.bind_eq_some_iff.mp H
 (try dsimp -simprocs only at H)
 have A3 := Aside0.mk A30
 clear A30
 obtain ⟨⟨t362, t363⟩, A40, H⟩ := Option.bind_eq_some_iff.mp H
 (try dsimp -simprocs only at H)
 have A4 := Aside0.mk A40
 clear A40
 by_cases c5 : t362 = 4607182418800017408
 rotate_left
 ·
  rw [if_neg c5] at H
  have c5b0 : (t362 == 4607182418800017408) = false := beq_eq_false_iff_ne.mpr c5
  have c5b1 : (t362 != 4607182418800017408) = true := bne_iff_ne.mpr c5
  obtain rfl := Option.some.inj H
  go_enter Tryd.func7, Tryd.ntmps7
  go_wp2_with (first | ((with_reducible refine gate_callee (f := 21) rfl ?_); refine goesL_ (some 4) rfl rfl Tryd.func21 (by kernel_rfl) rfl #[.int .u64 4607182418800017408] rfl ga ?_; (with_reducible refine (gimballaw07_of.calls k 4607182418800017408 t346 t347 t350 _ ?side1 A1.out).mono ?_); (case side1 => first | exact hT | exact TabW.drewN hT _ | exact TabW.drew hT | exact TabW.below hT bel); rintro e w29 ⟨v348, rfl, ho0, hb⟩; refine ⟨_, rfl, ?_⟩; refine ax2 (Kd.V_lower (Kd.V_mono (ok' := fun k_ => True) ho0 (fun k_ hk_ => trivial)) (below_size bel)) (below_step bel hb) ?_; clear HB; intro HO349 HB; (try clear hb); (try clear ho0)) | ((with_reducible refine gate_callee (f := 27) rfl ?_); refine goesL_ (some 5) rfl rfl Tryd.func27 (by kernel_rfl) rfl #[.int .i64 (-60)] rfl ga ?_; (with_reducible refine (dyad_Two.calls (-60) t351 t352 t355 _ A2.out).mono ?_); rintro e w30 ⟨v353, rfl, ho0, hb⟩; refine ⟨_, rfl, ?_⟩; refine ax3 (Kd.V_elder' (kv HO349) (Kd.R_base ho0) hb) (Kd.R_lower ho0 (below_size bel)) (below_step bel hb) ?_; clear HO349; clear HB; intro HO349 HO354 HB; (try clear hb); (try clear ho0); obtain ⟨Ao31, co31, eo31⟩ := Kd.V_slice HO349.out; subst eo31; obtain ⟨Ao32, co32, eo32⟩ := Kd.R_slice HO354.out; subst eo32) | ((with_reducible refine gate_callee (f := 11) rfl ?_); refine goesL_ (some 6) rfl rfl Tryd.func11 (by kernel_rfl) rfl #[.agg #[.bool t346, .slice Ao31 t347.length co31, .int .i64 t350], .agg #[.bool t351, .slice Ao32 t352.length co32, .int .i64 t355]] rfl ga ?_; (with_reducible refine (dyad_Num_Add.calls k t346 (fun k_ => (True ∧ some k_ ≠ (.slice Ao32 t352.length co32 : Value).ownBlock)) _ _ t347 t350 t351 (fun k_ => some k_ = (.slice Ao32 t352.length co32 : Value).ownBlock) _ _ t352 t355 t356 t357 t360 _ ?side1 ?side2 ?side3 A3.out).mono ?_); (case side1 => exact HO349.out); (case side2 => exact Kd.R_V (Kd.R_tight rfl (HO354.out))); (case side3 => first | exact hT | exact TabW.drewN hT _ | exact TabW.drew hT | exact TabW.below hT bel); rintro e w33 ⟨v358, rfl, ho0, hb⟩; refine ⟨_, rfl, ?_⟩; refine ax4 (Kd.V_below (kv HO349) hb) (Kd.R_below (kr HO354) hb) (Kd.V_lower (Kd.V_mono (ok' := fun k_ => True) ho0 (fun k_ hk_ => trivial)) (below_size bel)) (below_step bel hb) ?_; clear HO349; clear HO354; clear HB; intro HO349 HO354 HO359 HB; (try clear hb); (try clear ho0)) | ((with_reducible refine gate_dst (N := 1) rfl ?_); refine gbox (N := 1) (cs := #[.bool false, .slice none 0 0, .int .i64 0]) (t := 26) ?_; intro gb361 hg w34 hbox hb; refine ax7 (Kd.V_below (Kd.V_elderB (kv HO349) gb361 (Nat.le_of_eq hg.symm)) hb) (Kd.R_below (kr HO354) hb) (Kd.V_below (Kd.V_elderB (kv HO359) gb361 (Nat.le_of_eq hg.symm)) hb) (below_step bel hb) hbox ((ge hg : w.heap.size ≤ gb361)) ((ge hg : w.heap.size ≤ gb361)) ?_; clear HO349; clear HO354; clear HO359; clear HB; intro HO349 HO354 HO359 HB BK361 GW361 GE361; clear hb hbox hg; have hcz35_0 := bc BK361 0 rfl; have hcz35_1 := bc BK361 1 rfl; have hcz35_2 := bc BK361 2 rfl; have hfz35_0 := blk_frozen BK361.out 0; have hfz35_1 := blk_frozen BK361.out 1; have hfz35_2 := blk_frozen BK361.out 2; obtain ⟨Ao36, co36, eo36⟩ := Kd.V_slice HO359.out; subst eo36) | ((with_reducible refine gate_callee (f := 12) rfl ?_); refine goesL_ (some 9) rfl rfl Tryd.func12 (by kernel_rfl) rfl #[.agg #[.bool t356, .slice Ao36 t357.length co36, .int .i64 t360]] rfl ga ?_; (with_reducible refine (dyad_Num_Near.calls k t356 _ _ t357 t360 t362 t363 _ ?side1 ?side2 A4.out).mono ?_); (case side1 => refine (Kd.V_reads' (e := 56) (base := w.heap.size) (ok := fun k_ => (True ∧ k_ ≠ gb361)) (n := t357.length) (c := co36) ?_).2.2; exact (by (with_reducible repeat (first | apply Kd.V_alloc | apply Kd.V_drewN | apply Kd.V_drew)); exact (Kd.V_mono (Kd.V_far (p := ⟨gb361, 2, none⟩) (Kd.V_far (p := ⟨gb361, 1, none⟩) (Kd.V_far (p := ⟨gb361, 0, none⟩) (Kd.V_mono HO359.out (fun k_ hk => (⟨hk, hk.2⟩ : _ ∧ k_ ≠ gb361))) (fun _ hk => hk.2) (.bool t356)) (fun _ hk => hk.2) (.slice Ao36 t357.length co36)) (fun _ hk => hk.2) (.int .i64 t360)) (fun _ h_ => h_.1)))); (case side2 => exact (Kd.V_reads' HO359.out).2.1); rintro e w37 ⟨rfl, hb⟩; refine ⟨_, rfl, ?_⟩; refine ax5 (Kd.V_below (by (with_reducible repeat (first | apply Kd.V_alloc | apply Kd.V_drewN | apply Kd.V_drew)); exact (Kd.V_mono (Kd.V_far (p := ⟨gb361, 2, none⟩) (Kd.V_far (p := ⟨gb361, 1, none⟩) (Kd.V_far (p := ⟨gb361, 0, none⟩) (Kd.V_mono HO349.out (fun k_ hk => (⟨hk, hk.2⟩ : _ ∧ k_ ≠ gb361))) (fun _ hk => hk.2) (.bool t356)) (fun _ hk => hk.2) (.slice Ao36 t357.length co36)) (fun _ hk => hk.2) (.int .i64 t360)) (fun _ h_ => h_.1))) hb) (Kd.R_below (by (with_reducible repeat (first | apply Kd.R_alloc | apply Kd.R_drewN | apply Kd.R_drew)); exact (Kd.R_mono (Kd.R_far (p := ⟨gb361, 2, none⟩) (Kd.R_far (p := ⟨gb361, 1, none⟩) (Kd.R_far (p := ⟨gb361, 0, none⟩) (Kd.R_types HO354.out BK361.out (by decide)) (fun _ hk => hk.2) (.bool t356)) (fun _ hk => hk.2) (.slice Ao36 t357.length co36)) (fun _ hk => hk.2) (.int .i64 t360)) (fun _ h_ => h_.1))) hb) (Kd.V_below (by (with_reducible repeat (first | apply Kd.V_alloc | apply Kd.V_drewN | apply Kd.V_drew)); exact (Kd.V_mono (Kd.V_far (p := ⟨gb361, 2, none⟩) (Kd.V_far (p := ⟨gb361, 1, none⟩) (Kd.V_far (p := ⟨gb361, 0, none⟩) (Kd.V_mono HO359.out (fun k_ hk => (⟨hk, hk.2⟩ : _ ∧ k_ ≠ gb361))) (fun _ hk => hk.2) (.bool t356)) (fun _ hk => hk.2) (.slice Ao36 t357.length co36)) (fun _ hk => hk.2) (.int .i64 t360)) (fun _ h_ => h_.1))) hb) (blk_below (g := gb361) (o := .cells #[.bool t356, .slice Ao36 t357.length co36, .int .i64 t360] 26 (0, 0)) (by (with_reducible repeat (first | refine blk_drewN ?_ _ | refine blk_drew ?_ | refine blk_alloc ?_ _)); refine blk_put (cs := #[.bool t356, .slice Ao36 t357.length co36, .int .i64 0]) ?_ 2 _ rfl; (with_reducible repeat (first | refine blk_drewN ?_ _ | refine blk_drew ?_ | refine blk_alloc ?_ _)); refine blk_put (cs := #[.bool t356, .slice none 0 0, .int .i64 0]) ?_ 1 _ rfl; (with_reducible repeat (first | refine blk_drewN ?_ _ | refine blk_drew ?_ | refine blk_alloc ?_ _)); refine blk_put (cs := #[.bool false, .slice none 0 0, .int .i64 0]) ?_ 0 _ rfl; (with_reducible repeat (first | refine blk_drewN ?_ _ | refine blk_drew ?_ | refine blk_alloc ?_ _)); exact BK361.out) hb) (below_step bes hb) ?_; clear HO349; clear HO354; clear HO359; clear BK361; clear HB; intro HO349 HO354 HO359 BK361 HB; (try clear hb)))
  go_ret
  exact ⟨er, bes⟩

 rw [if_pos c5] at H
 have c5b0 : (t362 == 4607182418800017408) = true := beq_iff_eq.mpr c5
 have c5b1 : (t362 != 4607182418800017408) = false := bne_eq_false_iff_eq.mpr c5
 clear c5
 by_cases c6 : t363 = 1
 rotate_left
 ·
  rw [if_neg c6] at H
  have c6b0 : (t363 == 1) = false := beq_eq_false_iff_ne.mpr c6
  have c6b1 : (t363 != 1) = true := bne_iff_ne.mpr c6
  obtain rfl := Option.some.inj H
  go_enter Tryd.func7, Tryd.ntmps7
  go_wp2_with (first | ((with_reducible refine gate_callee (f := 21) rfl ?_); refine goesL_ (some 4) rfl rfl Tryd.func21 (by kernel_rfl) rfl #[.int .u64 4607182418800017408] rfl ga ?_; (with_reducible refine (gimballaw07_of.calls k 4607182418800017408 t346 t347 t350 _ ?side1 A1.out).mono ?_); (case side1 => first | exact hT | exact TabW.drewN hT _ | exact TabW.drew hT | exact TabW.below hT bel); rintro e w20 ⟨v348, rfl, ho0, hb⟩; refine ⟨_, rfl, ?_⟩; refine ax2 (Kd.V_lower (Kd.V_mono (ok' := fun k_ => True) ho0 (fun k_ hk_ => trivial)) (below_size bel)) (below_step bel hb) ?_; clear HB; intro HO349 HB; (try clear hb); (try clear ho0)) | ((with_reducible refine gate_callee (f := 27) rfl ?_); refine goesL_ (some 5) rfl rfl Tryd.func27 (by kernel_rfl) rfl #[.int .i64 (-60)] rfl ga ?_; (with_reducible refine (dyad_Two.calls (-60) t351 t352 t355 _ A2.out).mono ?_); rintro e w21 ⟨v353, rfl, ho0, hb⟩; refine ⟨_, rfl, ?_⟩; refine ax3 (Kd.V_elder' (kv HO349) (Kd.R_base ho0) hb) (Kd.R_lower ho0 (below_size bel)) (below_step bel hb) ?_; clear HO349; clear HB; intro HO349 HO354 HB; (try clear hb); (try clear ho0); obtain ⟨Ao22, co22, eo22⟩ := Kd.V_slice HO349.out; subst eo22; obtain ⟨Ao23, co23, eo23⟩ := Kd.R_slice HO354.out; subst eo23) | ((with_reducible refine gate_callee (f := 11) rfl ?_); refine goesL_ (some 6) rfl rfl Tryd.func11 (by kernel_rfl) rfl #[.agg #[.bool t346, .slice Ao22 t347.length co22, .int .i64 t350], .agg #[.bool t351, .slice Ao23 t352.length co23, .int .i64 t355]] rfl ga ?_; (with_reducible refine (dyad_Num_Add.calls k t346 (fun k_ => (True ∧ some k_ ≠ (.slice Ao23 t352.length co23 : Value).ownBlock)) _ _ t347 t350 t351 (fun k_ => some k_ = (.slice Ao23 t352.length co23 : Value).ownBlock) _ _ t352 t355 t356 t357 t360 _ ?side1 ?side2 ?side3 A3.out).mono ?_); (case side1 => exact HO349.out); (case side2 => exact Kd.R_V (Kd.R_tight rfl (HO354.out))); (case side3 => first | exact hT | exact TabW.drewN hT _ | exact TabW.drew hT | exact TabW.below hT bel); rintro e w24 ⟨v358, rfl, ho0, hb⟩; refine ⟨_, rfl, ?_⟩; refine ax4 (Kd.V_below (kv HO349) hb) (Kd.R_below (kr HO354) hb) (Kd.V_lower (Kd.V_mono (ok' := fun k_ => True) ho0 (fun k_ hk_ => trivial)) (below_size bel)) (below_step bel hb) ?_; clear HO349; clear HO354; clear HB; intro HO349 HO354 HO359 HB; (try clear hb); (try clear ho0)) | ((with_reducible refine gate_dst (N := 1) rfl ?_); refine gbox (N := 1) (cs := #[.bool false, .slice none 0 0, .int .i64 0]) (t := 26) ?_; intro gb361 hg w25 hbox hb; refine ax7 (Kd.V_below (Kd.V_elderB (kv HO349) gb361 (Nat.le_of_eq hg.symm)) hb) (Kd.R_below (kr HO354) hb) (Kd.V_below (Kd.V_elderB (kv HO359) gb361 (Nat.le_of_eq hg.symm)) hb) (below_step bel hb) hbox ((ge hg : w.heap.size ≤ gb361)) ((ge hg : w.heap.size ≤ gb361)) ?_; clear HO349; clear HO354; clear HO359; clear HB; intro HO349 HO354 HO359 HB BK361 GW361 GE361; clear hb hbox hg; have hcz26_0 := bc BK361 0 rfl; have hcz26_1 := bc BK361 1 rfl; have hcz26_2 := bc BK361 2 rfl; have hfz26_0 := blk_frozen BK361.out 0; have hfz26_1 := blk_frozen BK361.out 1; have hfz26_2 := blk_frozen BK361.out 2; obtain ⟨Ao27, co27, eo27⟩ := Kd.V_slice HO359.out; subst eo27) | ((with_reducible refine gate_callee (f := 12) rfl ?_); refine goesL_ (some 9) rfl rfl Tryd.func12 (by kernel_rfl) rfl #[.agg #[.bool t356, .slice Ao27 t357.length co27, .int .i64 t360]] rfl ga ?_; (with_reducible refine (dyad_Num_Near.calls k t356 _ _ t357 t360 t362 t363 _ ?side1 ?side2 A4.out).mono ?_); (case side1 => refine (Kd.V_reads' (e := 56) (base := w.heap.size) (ok := fun k_ => (True ∧ k_ ≠ gb361)) (n := t357.length) (c := co27) ?_).2.2; exact (by (with_reducible repeat (first | apply Kd.V_alloc | apply Kd.V_drewN | apply Kd.V_drew)); exact (Kd.V_mono (Kd.V_far (p := ⟨gb361, 2, none⟩) (Kd.V_far (p := ⟨gb361, 1, none⟩) (Kd.V_far (p := ⟨gb361, 0, none⟩) (Kd.V_mono HO359.out (fun k_ hk => (⟨hk, hk.2⟩ : _ ∧ k_ ≠ gb361))) (fun _ hk => hk.2) (.bool t356)) (fun _ hk => hk.2) (.slice Ao27 t357.length co27)) (fun _ hk => hk.2) (.int .i64 t360)) (fun _ h_ => h_.1)))); (case side2 => exact (Kd.V_reads' HO359.out).2.1); rintro e w28 ⟨rfl, hb⟩; refine ⟨_, rfl, ?_⟩; refine ax5 (Kd.V_below (by (with_reducible repeat (first | apply Kd.V_alloc | apply Kd.V_drewN | apply Kd.V_drew)); exact (Kd.V_mono (Kd.V_far (p := ⟨gb361, 2, none⟩) (Kd.V_far (p := ⟨gb361, 1, none⟩) (Kd.V_far (p := ⟨gb361, 0, none⟩) (Kd.V_mono HO349.out (fun k_ hk => (⟨hk, hk.2⟩ : _ ∧ k_ ≠ gb361))) (fun _ hk => hk.2) (.bool t356)) (fun _ hk => hk.2) (.slice Ao27 t357.length co27)) (fun _ hk => hk.2) (.int .i64 t360)) (fun _ h_ => h_.1))) hb) (Kd.R_below (by (with_reducible repeat (first | apply Kd.R_alloc | apply Kd.R_drewN | apply Kd.R_drew)); exact (Kd.R_mono (Kd.R_far (p := ⟨gb361, 2, none⟩) (Kd.R_far (p := ⟨gb361, 1, none⟩) (Kd.R_far (p := ⟨gb361, 0, none⟩) (Kd.R_types HO354.out BK361.out (by decide)) (fun _ hk => hk.2) (.bool t356)) (fun _ hk => hk.2) (.slice Ao27 t357.length co27)) (fun _ hk => hk.2) (.int .i64 t360)) (fun _ h_ => h_.1))) hb) (Kd.V_below (by (with_reducible repeat (first | apply Kd.V_alloc | apply Kd.V_drewN | apply Kd.V_drew)); exact (Kd.V_mono (Kd.V_far (p := ⟨gb361, 2, none⟩) (Kd.V_far (p := ⟨gb361, 1, none⟩) (Kd.V_far (p := ⟨gb361, 0, none⟩) (Kd.V_mono HO359.out (fun k_ hk => (⟨hk, hk.2⟩ : _ ∧ k_ ≠ gb361))) (fun _ hk => hk.2) (.bool t356)) (fun _ hk => hk.2) (.slice Ao27 t357.length co27)) (fun _ hk => hk.2) (.int .i64 t360)) (fun _ h_ => h_.1))) hb) (blk_below (g := gb361) (o := .cells #[.bool t356, .slice Ao27 t357.length co27, .int .i64 t360] 26 (0, 0)) (by (with_reducible repeat (first | refine blk_drewN ?_ _ | refine blk_drew ?_ | refine blk_alloc ?_ _)); refine blk_put (cs := #[.bool t356, .slice Ao27 t357.length co27, .int .i64 0]) ?_ 2 _ rfl; (with_reducible repeat (first | refine blk_drewN ?_ _ | refine blk_drew ?_ | refine blk_alloc ?_ _)); refine blk_put (cs := #[.bool t356, .slice none 0 0, .int .i64 0]) ?_ 1 _ rfl; (with_reducible repeat (first | refine blk_drewN ?_ _ | refine blk_drew ?_ | refine blk_alloc ?_ _)); refine blk_put (cs := #[.bool false, .slice none 0 0, .int .i64 0]) ?_ 0 _ rfl; (with_reducible repeat (first | refine blk_drewN ?_ _ | refine blk_drew ?_ | refine blk_alloc ?_ _)); exact BK361.out) hb) (below_step bes hb) ?_; clear HO349; clear HO354; clear HO359; clear BK361; clear HB; intro HO349 HO354 HO359 BK361 HB; (try clear hb)))
  go_ret
  exact ⟨er, bes⟩
 rw [if_pos c6] at H
 have c6b0 : (t363 == 1) = true := beq_iff_eq.mpr c6
 have c6b1 : (t363 != 1) = false := bne_eq_false_iff_eq.mpr c6
 clear c6
 obtain ⟨t364, A70, H⟩ := Option.bind_eq_some_iff.mp H
 (try dsimp -simprocs only at H)
 have A7 := Aside0.mk A70
 clear A70
 obtain ⟨t365, A80, H⟩ := Option.bind_eq_some_iff.mp H
 (try dsimp -simprocs only at H)
 have A8 := Aside0.mk A80
 clear A80
 obtain rfl := Option.some.inj H
 go_enter Tryd.func7, Tryd.ntmps7
 go_wp2_with (first | ((with_reducible refine gate_callee (f := 21) rfl ?_); refine goesL_ (some 4) rfl rfl Tryd.func21 (by kernel_rfl) rfl #[.int .u64 4607182418800017408] rfl ga ?_; (with_reducible refine (gimballaw07_of.calls k 4607182418800017408 t346 t347 t350 _ ?side1 A1.out).mono ?_); (case side1 => first | exact hT | exact TabW.drewN hT _ | exact TabW.drew hT | exact TabW.below hT bel); rintro e w9 ⟨v348, rfl, ho0, hb⟩; refine ⟨_, rfl, ?_⟩; refine ax2 (Kd.V_lower (Kd.V_mono (ok' := fun k_ => True) ho0 (fun k_ hk_ => trivial)) (below_size bel)) (below_step bel hb) ?_; clear HB; intro HO349 HB; (try clear hb); (try clear ho0)) | ((with_reducible refine gate_callee (f := 27) rfl ?_); refine goesL_ (some 5) rfl rfl Tryd.func27 (by kernel_rfl) rfl #[.int .i64 (-60)] rfl ga ?_; (with_reducible refine (dyad_Two.calls (-60) t351 t352 t355 _ A2.out).mono ?_); rintro e w10 ⟨v353, rfl, ho0, hb⟩; refine ⟨_, rfl, ?_⟩; refine ax3 (Kd.V_elder' (kv HO349) (Kd.R_base ho0) hb) (Kd.R_lower ho0 (below_size bel)) (below_step bel hb) ?_; clear HO349; clear HB; intro HO349 HO354 HB; (try clear hb); (try clear ho0); obtain ⟨Ao11, co11, eo11⟩ := Kd.V_slice HO349.out; subst eo11; obtain ⟨Ao12, co12, eo12⟩ := Kd.R_slice HO354.out; subst eo12) | ((with_reducible refine gate_callee (f := 11) rfl ?_); refine goesL_ (some 6) rfl rfl Tryd.func11 (by kernel_rfl) rfl #[.agg #[.bool t346, .slice Ao11 t347.length co11, .int .i64 t350], .agg #[.bool t351, .slice Ao12 t352.length co12, .int .i64 t355]] rfl ga ?_; (with_reducible refine (dyad_Num_Add.calls k t346 (fun k_ => (True ∧ some k_ ≠ (.slice Ao12 t352.length co12 : Value).ownBlock)) _ _ t347 t350 t351 (fun k_ => some k_ = (.slice Ao12 t352.length co12 : Value).ownBlock) _ _ t352 t355 t356 t357 t360 _ ?side1 ?side2 ?side3 A3.out).mono ?_); (case side1 => exact HO349.out); (case side2 => exact Kd.R_V (Kd.R_tight rfl (HO354.out))); (case side3 => first | exact hT | exact TabW.drewN hT _ | exact TabW.drew hT | exact TabW.below hT bel); rintro e w13 ⟨v358, rfl, ho0, hb⟩; refine ⟨_, rfl, ?_⟩; refine ax4 (Kd.V_below (kv HO349) hb) (Kd.R_below (kr HO354) hb) (Kd.V_lower (Kd.V_mono (ok' := fun k_ => True) ho0 (fun k_ hk_ => trivial)) (below_size bel)) (below_step bel hb) ?_; clear HO349; clear HO354; clear HB; intro HO349 HO354 HO359 HB; (try clear hb); (try clear ho0)) | ((with_reducible refine gate_dst (N := 1) rfl ?_); refine gbox (N := 1) (cs := #[.bool false, .slice none 0 0, .int .i64 0]) (t := 26) ?_; intro gb361 hg w14 hbox hb; refine ax7 (Kd.V_below (Kd.V_elderB (kv HO349) gb361 (Nat.le_of_eq hg.symm)) hb) (Kd.R_below (kr HO354) hb) (Kd.V_below (Kd.V_elderB (kv HO359) gb361 (Nat.le_of_eq hg.symm)) hb) (below_step bel hb) hbox ((ge hg : w.heap.size ≤ gb361)) ((ge hg : w.heap.size ≤ gb361)) ?_; clear HO349; clear HO354; clear HO359; clear HB; intro HO349 HO354 HO359 HB BK361 GW361 GE361; clear hb hbox hg; have hcz15_0 := bc BK361 0 rfl; have hcz15_1 := bc BK361 1 rfl; have hcz15_2 := bc BK361 2 rfl; have hfz15_0 := blk_frozen BK361.out 0; have hfz15_1 := blk_frozen BK361.out 1; have hfz15_2 := blk_frozen BK361.out 2; obtain ⟨Ao16, co16, eo16⟩ := Kd.V_slice HO359.out; subst eo16) | ((with_reducible refine gate_callee (f := 12) rfl ?_); refine goesL_ (some 9) rfl rfl Tryd.func12 (by kernel_rfl) rfl #[.agg #[.bool t356, .slice Ao16 t357.length co16, .int .i64 t360]] rfl ga ?_; (with_reducible refine (dyad_Num_Near.calls k t356 _ _ t357 t360 t362 t363 _ ?side1 ?side2 A4.out).mono ?_); (case side1 => refine (Kd.V_reads' (e := 56) (base := w.heap.size) (ok := fun k_ => (True ∧ k_ ≠ gb361)) (n := t357.length) (c := co16) ?_).2.2; exact (by (with_reducible repeat (first | apply Kd.V_alloc | apply Kd.V_drewN | apply Kd.V_drew)); exact (Kd.V_mono (Kd.V_far (p := ⟨gb361, 2, none⟩) (Kd.V_far (p := ⟨gb361, 1, none⟩) (Kd.V_far (p := ⟨gb361, 0, none⟩) (Kd.V_mono HO359.out (fun k_ hk => (⟨hk, hk.2⟩ : _ ∧ k_ ≠ gb361))) (fun _ hk => hk.2) (.bool t356)) (fun _ hk => hk.2) (.slice Ao16 t357.length co16)) (fun _ hk => hk.2) (.int .i64 t360)) (fun _ h_ => h_.1)))); (case side2 => exact (Kd.V_reads' HO359.out).2.1); rintro e w17 ⟨rfl, hb⟩; refine ⟨_, rfl, ?_⟩; refine ax5 (Kd.V_below (by (with_reducible repeat (first | apply Kd.V_alloc | apply Kd.V_drewN | apply Kd.V_drew)); exact (Kd.V_mono (Kd.V_far (p := ⟨gb361, 2, none⟩) (Kd.V_far (p := ⟨gb361, 1, none⟩) (Kd.V_far (p := ⟨gb361, 0, none⟩) (Kd.V_mono HO349.out (fun k_ hk => (⟨hk, hk.2⟩ : _ ∧ k_ ≠ gb361))) (fun _ hk => hk.2) (.bool t356)) (fun _ hk => hk.2) (.slice Ao16 t357.length co16)) (fun _ hk => hk.2) (.int .i64 t360)) (fun _ h_ => h_.1))) hb) (Kd.R_below (by (with_reducible repeat (first | apply Kd.R_alloc | apply Kd.R_drewN | apply Kd.R_drew)); exact (Kd.R_mono (Kd.R_far (p := ⟨gb361, 2, none⟩) (Kd.R_far (p := ⟨gb361, 1, none⟩) (Kd.R_far (p := ⟨gb361, 0, none⟩) (Kd.R_types HO354.out BK361.out (by decide)) (fun _ hk => hk.2) (.bool t356)) (fun _ hk => hk.2) (.slice Ao16 t357.length co16)) (fun _ hk => hk.2) (.int .i64 t360)) (fun _ h_ => h_.1))) hb) (Kd.V_below (by (with_reducible repeat (first | apply Kd.V_alloc | apply Kd.V_drewN | apply Kd.V_drew)); exact (Kd.V_mono (Kd.V_far (p := ⟨gb361, 2, none⟩) (Kd.V_far (p := ⟨gb361, 1, none⟩) (Kd.V_far (p := ⟨gb361, 0, none⟩) (Kd.V_mono HO359.out (fun k_ hk => (⟨hk, hk.2⟩ : _ ∧ k_ ≠ gb361))) (fun _ hk => hk.2) (.bool t356)) (fun _ hk => hk.2) (.slice Ao16 t357.length co16)) (fun _ hk => hk.2) (.int .i64 t360)) (fun _ h_ => h_.1))) hb) (blk_below (g := gb361) (o := .cells #[.bool t356, .slice Ao16 t357.length co16, .int .i64 t360] 26 (0, 0)) (by (with_reducible repeat (first | refine blk_drewN ?_ _ | refine blk_drew ?_ | refine blk_alloc ?_ _)); refine blk_put (cs := #[.bool t356, .slice Ao16 t357.length co16, .int .i64 0]) ?_ 2 _ rfl; (with_reducible repeat (first | refine blk_drewN ?_ _ | refine blk_drew ?_ | refine blk_alloc ?_ _)); refine blk_put (cs := #[.bool t356, .slice none 0 0, .int .i64 0]) ?_ 1 _ rfl; (with_reducible repeat (first | refine blk_drewN ?_ _ | refine blk_drew ?_ | refine blk_alloc ?_ _)); refine blk_put (cs := #[.bool false, .slice none 0 0, .int .i64 0]) ?_ 0 _ rfl; (with_reducible repeat (first | refine blk_drewN ?_ _ | refine blk_drew ?_ | refine blk_alloc ?_ _)); exact BK361.out) hb) (below_step bes hb) ?_; clear HO349; clear HO354; clear HO359; clear BK361; clear HB; intro HO349 HO354 HO359 BK361 HB; (try clear hb); have hcz18_0 := bc BK361 0 rfl; have hcz18_1 := bc BK361 1 rfl; have hcz18_2 := bc BK361 2 rfl; have hfz18_0 := blk_frozen BK361.out 0; have hfz18_1 := blk_frozen BK361.out 1; have hfz18_2 := blk_frozen BK361.out 2) | (go_at_call 31; (with_reducible refine (dyad_Num_Up.calls k t356 _ _ t357 t360 t364 _ ?side1 ?side2 ?side3 A7.out).mono ?_); (case side1 => exact kvs HO359); (case side2 => exact (Kd.V_reads' HO359.out).2.1); (case side3 => first | exact hT | exact TabW.drewN hT _ | exact TabW.drew hT | exact TabW.below hT bes); rintro e w19 ⟨rfl, hb⟩; refine ax5 (Kd.V_below (kv HO349) hb) (Kd.R_below (kr HO354) hb) (Kd.V_below (kv HO359) hb) (bb BK361 hb) (below_step bes hb) ?_; clear HO349; clear HO354; clear HO359; clear BK361; clear HB; intro HO349 HO354 HO359 BK361 HB; (try clear hb)) | (go_at_call 32; (with_reducible refine (word_Next.calls k 4607182418800017408 t365 _ A8.out).mono ?_); rintro e w' ⟨rfl, ⟨nd, rfl⟩⟩))
 go_ret
 exact ⟨er, bes⟩
/-! ### dyad_Num_Mul: function 13 -/
mutual
def dyad_Num_Mul.j0 : Nat → Bool → Bool → List Int → Int → Bool → List Int → Int → Option (Bool × List Int × Int)
 | 0, _, _, _, _, _, _, _ => none
 | k + 1, x20, x367000, x367001, x367002, x368000, x368001, x368002 => if x20 = true then (some (false, ([] : List Int), 0)) else (if 0 ≤ (wrap64 ((x367001.length : Int) + (x368001.length : Int))) then (if (wrap64 ((x367001.length : Int) + (x368001.length : Int)) : Int).toNat ≤ 70368744177664 then (dyad_Num_Mul.l0 k (List.replicate (wrap64 ((x367001.length : Int) + (x368001.length : Int)) : Int).toNat 0) x367001 (x367001.length : Int) 0 x367000 x367001 x367002 x368000 x368001 x368002) else (none)) else (none))
def dyad_Num_Mul.l0 : Nat → List Int → List Int → Int → Int → Bool → List Int → Int → Bool → List Int → Int → Option (Bool × List Int × Int)
 | 0, _, _, _, _, _, _, _, _, _, _ => none
 | k + 1, x5, x31, x32, x33, x367000, x367001, x367002, x368000, x368001, x368002 => if x33 < x32 then (if 0 ≤ x33 then (if x33 < (x31.length : Int) then (dyad_Num_Mul.l1 k x5 x33 (rd x31 x33) 0 x31 x32 x33 x368001 (x368001.length : Int) 0 x367000 x367001 x367002 x368000 x368001 x368002) else (none)) else (none)) else ((dyad_trim.f k (x367000 != x368000) x5 (wrap64 (x367002 + x368002))).bind fun bt372 => (some (bt372.1, bt372.2.1, bt372.2.2)))
def dyad_Num_Mul.l1 : Nat → List Int → Int → Int → Int → List Int → Int → Int → List Int → Int → Int → Bool → List Int → Int → Bool → List Int → Int → Option (Bool × List Int × Int)
 | 0, _, _, _, _, _, _, _, _, _, _, _, _, _, _, _, _ => none
 | k + 1, x5, x6, x7, x8, x31, x32, x33, x39, x40, x41, x367000, x367001, x367002, x368000, x368001, x368002 => if x41 < x40 then (if 0 ≤ x41 then (if x41 < (x39.length : Int) then (if 0 ≤ (wrap64 (x6 + x41)) then (if (wrap64 (x6 + x41)) < (x5.length : Int) then (dyad_Num_Mul.l1 k (x5.set ((wrap64 (x6 + x41)) : Int).toNat ((IntKind.u64.wrap (x8 + (IntKind.u64.wrap ((IntKind.u64.wrap (rd x5 (wrap64 (x6 + x41)))) + (IntKind.u64.wrap ((IntKind.u64.wrap (x7)) * (IntKind.u64.wrap (rd x39 x41)))))))) % 4294967296)) x6 x7 ((IntKind.u64.wrap (x8 + (IntKind.u64.wrap ((IntKind.u64.wrap (rd x5 (wrap64 (x6 + x41)))) + (IntKind.u64.wrap ((IntKind.u64.wrap (x7)) * (IntKind.u64.wrap (rd x39 x41)))))))) / 4294967296) x31 x32 x33 x39 x40 (wrap64 (x41 + 1)) x367000 x367001 x367002 x368000 x368001 x368002) else (none)) else (none)) else (none)) else (none)) else (if 0 ≤ (wrap64 (x6 + (x368001.length : Int))) then (if (wrap64 (x6 + (x368001.length : Int))) < (x5.length : Int) then (dyad_Num_Mul.l0 k (x5.set ((wrap64 (x6 + (x368001.length : Int))) : Int).toNat ((x8) % 4294967296)) x31 x32 (wrap64 (x33 + 1)) x367000 x367001 x367002 x368000 x368001 x368002) else (none)) else (none))
end
def dyad_Num_Mul.f (k : Nat) (a0_0 : Bool) (l0_1 : List Int) (a0_2 : Int) (a1_0 : Bool) (l1_1 : List Int) (a1_2 : Int) : Option (Bool × List Int × Int) := if (l0_1.length : Int) = 0 then (dyad_Num_Mul.j0 k true a0_0 l0_1 a0_2 a1_0 l1_1 a1_2) else (dyad_Num_Mul.j0 k ((l1_1.length : Int) == 0) a0_0 l0_1 a0_2 a1_0 l1_1 a1_2)
theorem dyad_Num_Mul.mono_l : ∀ k, (∀ y0 y1 y2 y3 y4 y5 y6, LeO (dyad_Num_Mul.j0 k y0 y1 y2 y3 y4 y5 y6) (dyad_Num_Mul.j0 (k + 1) y0 y1 y2 y3 y4 y5 y6)) ∧ (∀ y0 y1 y2 y3 y4 y5 y6 y7 y8 y9, LeO (dyad_Num_Mul.l0 k y0 y1 y2 y3 y4 y5 y6 y7 y8 y9) (dyad_Num_Mul.l0 (k + 1) y0 y1 y2 y3 y4 y5 y6 y7 y8 y9)) ∧ (∀ y0 y1 y2 y3 y4 y5 y6 y7 y8 y9 y10 y11 y12 y13 y14 y15, LeO (dyad_Num_Mul.l1 k y0 y1 y2 y3 y4 y5 y6 y7 y8 y9 y10 y11 y12 y13 y14 y15) (dyad_Num_Mul.l1 (k + 1) y0 y1 y2 y3 y4 y5 y6 y7 y8 y9 y10 y11 y12 y13 y14 y15))
 | 0 => ⟨fun _ _ _ _ _ _ _ r h => by simp [dyad_Num_Mul.j0] at h, fun _ _ _ _ _ _ _ _ _ _ r h => by simp [dyad_Num_Mul.l0] at h, fun _ _ _ _ _ _ _ _ _ _ _ _ _ _ _ _ r h => by simp [dyad_Num_Mul.l1] at h⟩
 | k + 1 => by
  obtain ⟨ih0, ih1, ih2⟩ := dyad_Num_Mul.mono_l k
  refine ⟨?_, ?_, ?_⟩ <;> intros <;> (first | unfold dyad_Num_Mul.j0 | unfold dyad_Num_Mul.l0 | unfold dyad_Num_Mul.l1) <;>
   repeat' with_reducible first | apply ih0 | apply ih1 | apply ih2 | apply dyad_trim.mono | exact LeO.refl _ | exact LeO.none _ | refine LeO.ite ?_ ?_ | refine LeO.bind ?_ (fun _ => ?_)
theorem dyad_Num_Mul.mono : ∀ a0 a1 a2 a3 a4 a5 k, LeO (dyad_Num_Mul.f k a0 a1 a2 a3 a4 a5) (dyad_Num_Mul.f (k + 1) a0 a1 a2 a3 a4 a5) := by
 intro a0 a1 a2 a3 a4 a5 k
 obtain ⟨ih0, ih1, ih2⟩ := dyad_Num_Mul.mono_l k
 unfold dyad_Num_Mul.f
 repeat' with_reducible first | apply ih0 | apply ih1 | apply ih2 | apply dyad_trim.mono | exact LeO.refl _ | exact LeO.none _ | refine LeO.ite ?_ ?_ | refine LeO.bind ?_ (fun _ => ?_)
set_option maxHeartbeats 8000000 in
set_option maxRecDepth 100000 in
theorem dyad_Num_Mul.calls (k : Nat) (a0_0 : Bool) (A0_1 : Option Addr) (c0_1 : Nat) (l0_1 : List Int) (a0_2 : Int) (a1_0 : Bool) (A1_1 : Option Addr) (c1_1 : Nat) (l1_1 : List Int) (a1_2 : Int) (r1 : Bool) (r2 : List Int) (r3 : Int) (w : World) (hr0_1 : Kd.C (Kd.int .u32) w A0_1 l0_1.length l0_1) (hc0_1 : l0_1.length ≤ c0_1) (hr1_1 : Kd.C (Kd.int .u32) w A1_1 l1_1.length l1_1) (hc1_1 : l1_1.length ≤ c1_1) (hT : TabW w) (h : dyad_Num_Mul.f k a0_0 l0_1 a0_2 a1_0 l1_1 a1_2 = some (r1, r2, r3)) :
  Calls Tryd.prog 13 #[.agg #[.bool a0_0, .slice A0_1 l0_1.length c0_1, .int .i64 a0_2], .agg #[.bool a1_0, .slice A1_1 l1_1.length c1_1, .int .i64 a1_2]] w fun e w' => ∃ v1_ : Value, e = .returned (.agg #[.bool r1, v1_, .int .i64 r3]) ∧ Kd.V (Kd.int .u32) 56 w' w.heap.size (fun k_ => (w.heap.size ≤ k_)) v1_ r2 ∧ Below w.heap.size w w' := by
 have hu26 := Tryd.underlying26
 have HR0_1 := Aside0.mk hr0_1
 have HC0_1 := Aside0.mk hc0_1
 clear hr0_1 hc0_1
 have HR1_1 := Aside0.mk hr1_1
 have HC1_1 := Aside0.mk hc1_1
 clear hr1_1 hc1_1
 have HB := Aside0.mk (Below.refl w.heap.size w)
 have H : (if (l0_1.length : Int) = 0 then (dyad_Num_Mul.j0 k true a0_0 l0_1 a0_2 a1_0 l1_1 a1_2) else (dyad_Num_Mul.j0 k ((l1_1.length : Int) == 0) a0_0 l0_1 a0_2 a1_0 l1_1 a1_2)) = some (r1, r2, r3) := h
 clear h
 have HC3 := Aside0.mk H
 clear H
 go_enter Tryd.func13, Tryd.ntmps13
 go_upto_region 1 with (first | ((with_reducible refine gate_dst (N := 2) rfl ?_); refine gbox (N := 2) (cs := #[.bool a0_0, .slice A0_1 l0_1.length c0_1, .int .i64 a0_2]) (t := 26) ?_; intro gb366 hg w4 hbox hb; refine ax4 (below_step bel hb) hbox ((ge hg : w.heap.size ≤ gb366)) ((ge hg : w.heap.size ≤ gb366)) ?_; clear HB; intro HB BK366 GW366 GE366; clear hb hbox hg) | ((with_reducible refine gate_dst (N := 3) rfl ?_); refine gbox (N := 3) (cs := #[.bool a1_0, .slice A1_1 l1_1.length c1_1, .int .i64 a1_2]) (t := 26) ?_; intro gb367 hg w5 hbox hb; refine ax7 (bb BK366 hb) (below_step bes hb) hbox ((ge hg : w.heap.size ≤ gb367)) ((ge hg : w.heap.size ≤ gb367)) (nl hg BK366) (ng hg BK366) ?_; clear BK366; clear HB; intro BK366 HB BK367 GW367 GE367 NB366_367 NB367_366; clear hb hbox hg) | ((with_reducible refine gate_dst (N := 4) rfl ?_); refine gbox (N := 4) (cs := #[.bool false, .slice none 0 0, .int .i64 0]) (t := 26) ?_; intro gb368 hg w6 hbox hb; refine ax10 (bb BK366 hb) (bb BK367 hb) (below_step bes hb) hbox ((ge hg : w.heap.size ≤ gb368)) ((ge hg : w.heap.size ≤ gb368)) (nl hg BK366) (ng hg BK366) (nl hg BK367) (ng hg BK367) ?_; clear BK366; clear BK367; clear HB; intro BK366 BK367 HB BK368 GW368 GE368 NB366_368 NB368_366 NB367_368 NB368_367; clear hb hbox hg))
 (try simp only [Act.put, sa0, sa1, sa2])
 go_cut [20] (fun v20 wc => ∃ (kq : Nat) (x20_2 : Bool), v20 = .bool x20_2 ∧ Aside0 (dyad_Num_Mul.j0 kq x20_2 a0_0 l0_1 a0_2 a1_0 l1_1 a1_2 = some (r1, r2, r3)) ∧ Aside0 (kq ≤ k) ∧ Aside0 (wc.heap[gb366]? = some (.cells #[.bool a0_0, (.slice A0_1 l0_1.length c0_1), .int .i64 a0_2] 26 (0, 0))) ∧ Aside0 (wc.heap[gb367]? = some (.cells #[.bool a1_0, (.slice A1_1 l1_1.length c1_1), .int .i64 a1_2] 26 (0, 0))) ∧ Aside0 (wc.heap[gb368]? = some (.cells #[.bool false, (.slice none 0 0), .int .i64 0] 26 (0, 0))) ∧ Aside0 (Below w.heap.size w wc))
 case first =>
  have H := HC3.out
  clear HC3
  by_cases c7 : (l0_1.length : Int) = 0
  ·
   rw [if_pos c7] at H
   have c7b0 : ((l0_1.length : Int) == 0) = true := beq_iff_eq.mpr c7
   have c7b1 : ((l0_1.length : Int) != 0) = false := bne_eq_false_iff_eq.mpr c7
   clear c7
   (first | rw [c7b0] | (simp only [i64_w, i32_w]; rw [c7b0]) | skip)
   have H' := Aside0.mk H
   clear H
   have hnb8 := NB366_367.out
   have hnc8 := NB367_366.out
   have hnb9 := NB366_368.out
   have hnc9 := NB368_366.out
   have hcz10_0 := bc BK366 0 rfl
   have hcz10_1 := bc BK366 1 rfl
   have hcz10_2 := bc BK366 2 rfl
   have hfz10_0 := blk_frozen BK366.out 0
   have hfz10_1 := blk_frozen BK366.out 1
   have hfz10_2 := blk_frozen BK366.out 2
   go_wp2
   go_meet
   case rel => exact ⟨_, (true), (by first | rfl | (simp; done) | (simp [*]; done)), H', ⟨by first | omega | exact Nat.le_refl _⟩, ⟨kb BK366⟩, ⟨kb BK367⟩, ⟨kb BK368⟩, ⟨bes⟩⟩
  ·
   rw [if_neg c7] at H
   have c7b0 : ((l0_1.length : Int) == 0) = false := beq_eq_false_iff_ne.mpr c7
   have c7b1 : ((l0_1.length : Int) != 0) = true := bne_iff_ne.mpr c7
   have c7b2 : ¬ (l0_1 = []) := fun h_ => c7 (by rw [h_]; rfl)
   (first | rw [c7b0] | (simp only [i64_w, i32_w]; rw [c7b0]) | skip)
   have H' := Aside0.mk H
   clear H
   have hnb11 := NB366_367.out
   have hnc11 := NB367_366.out
   have hnb12 := NB366_368.out
   have hnc12 := NB368_366.out
   have hcz13_0 := bc BK366 0 rfl
   have hcz13_1 := bc BK366 1 rfl
   have hcz13_2 := bc BK366 2 rfl
   have hfz13_0 := blk_frozen BK366.out 0
   have hfz13_1 := blk_frozen BK366.out 1
   have hfz13_2 := blk_frozen BK366.out 2
   have hnb14 := NB367_368.out
   have hnc14 := NB368_367.out
   have hcz15_0 := bc BK367 0 rfl
   have hcz15_1 := bc BK367 1 rfl
   have hcz15_2 := bc BK367 2 rfl
   have hfz15_0 := blk_frozen BK367.out 0
   have hfz15_1 := blk_frozen BK367.out 1
   have hfz15_2 := blk_frozen BK367.out 2
   go_wp2
   go_meet
   case rel => exact ⟨_, (((l1_1.length : Int) == 0)), (by first | rfl | (simp; done) | (simp [*]; done)), H', ⟨by first | omega | exact Nat.le_refl _⟩, ⟨kb BK366⟩, ⟨kb BK367⟩, ⟨kb BK368⟩, ⟨bes⟩⟩
 case rest =>
  clear HC3
  try clear c1
  try clear p2
  try clear c7
  try clear c7b0
  try clear c7b1
  try clear c7b2
  try clear c8
  try clear c9
  try clear c11
  try clear c12
  try clear c13
  try clear c14
  try clear hcz10_0
  try clear hcz10_1
  try clear hcz10_2
  try clear hcz13_0
  try clear hcz13_1
  try clear hcz13_2
  try clear hcz15_0
  try clear hcz15_1
  try clear hcz15_2
  try clear hfz10_0
  try clear hfz10_1
  try clear hfz10_2
  try clear hfz13_0
  try clear hfz13_1
  try clear hfz13_2
  try clear hfz15_0
  try clear hfz15_1
  try clear hfz15_2
  obtain ⟨kq, x20_2, rfl, HA, HJ2, BK366, BK367, BK368, HB⟩ := hcut
  cases kq with
  | zero => exact absurd HA.out (by simp [dyad_Num_Mul.j0])
  | succ kj2 =>
   have H := HA.out
   clear HA
   simp only [dyad_Num_Mul.j0] at H
   by_cases c16 : x20_2 = true
   ·
    subst c16
    rw [if_pos rfl] at H
    simp only [Option.some.injEq, Prod.mk.injEq] at H
    obtain ⟨rfl, rfl, rfl⟩ := H
    have hnb17 := NB368_366.out
    have hnc17 := NB366_368.out
    have hnb18 := NB368_367.out
    have hnc18 := NB367_368.out
    have hcz19_0 := bc BK368 0 rfl
    have hcz19_1 := bc BK368 1 rfl
    have hcz19_2 := bc BK368 2 rfl
    have hfz19_0 := blk_frozen BK368.out 0
    have hfz19_1 := blk_frozen BK368.out 1
    have hfz19_2 := blk_frozen BK368.out 2
    go_wp2
    refine bodyPost_ret (results_cell_row rfl _ _ gb368 26 #[.bool false, .slice none 0 0, .int .i64 0] (0, 0) _ rfl (by (with_reducible repeat (first | refine blk_drewN ?_ _ | refine blk_drew ?_ | refine blk_alloc ?_ _)); refine blk_put (cs := #[.bool false, .slice none 0 0, .int .i64 0]) ?_ 2 _ rfl; (with_reducible repeat (first | refine blk_drewN ?_ _ | refine blk_drew ?_ | refine blk_alloc ?_ _)); refine blk_put (cs := #[.bool false, .slice none 0 0, .int .i64 0]) ?_ 1 _ rfl; (with_reducible repeat (first | refine blk_drewN ?_ _ | refine blk_drew ?_ | refine blk_alloc ?_ _)); refine blk_put (cs := #[.bool false, .slice none 0 0, .int .i64 0]) ?_ 0 _ rfl; (with_reducible repeat (first | refine blk_drewN ?_ _ | refine blk_drew ?_ | refine blk_alloc ?_ _)); exact BK368.out) Tryd.underlying26 rfl (by kernel_rfl)) rfl ?_
    exact ⟨_, er, Kd.V_nil _ _ _ _ _, bes⟩
   ·
    replace c16 := Bool.eq_false_iff.mpr c16
    subst c16
    rw [if_neg (show ¬ (false = true) by decide)] at H
    obtain ⟨ji20, hji20⟩ : ∃ j_ : Int, (wrap64 ((l0_1.length : Int) + (l1_1.length : Int))) = j_ := ⟨_, rfl⟩
    replace H : (if 0 ≤ (ji20) then (if (ji20 : Int).toNat ≤ 70368744177664 then (dyad_Num_Mul.l0 kj2 (List.replicate (ji20 : Int).toNat 0) l0_1 (l0_1.length : Int) 0 a0_0 l0_1 a0_2 a1_0 l1_1 a1_2) else (none)) else (none)) = some (r1, r2, r3) := by first | (rw [hji20] at H; exact H) | (simp only [hji20] at H ⊢; exact H)
    have hji20w : (IntKind.i64.wrap ((l0_1.length : Int) + (l1_1.length : Int))) = ji20 := (i64_w _).trans hji20
    by_cases c21 : 0 ≤ (ji20)
    rotate_left
    ·
     rw [if_neg c21] at H
     exact absurd H (by simp)

    rw [if_pos c21] at H
    have c21b0 := eq_true c21
    have c21b1 : decide (0 ≤ (ji20)) = true := decide_eq_true c21
    clear c21
    by_cases c22 : (ji20 : Int).toNat ≤ 70368744177664
    rotate_left
    ·
     rw [if_neg c22] at H
     exact absurd H (by simp)
    rw [if_pos c22] at H
    have c22b0 := eq_true c22
    have c22b1 : decide ((ji20 : Int).toNat ≤ 70368744177664) = true := decide_eq_true c22
    clear c22
    obtain ⟨y369, hy369⟩ : ∃ y_ : List Int, y_ = (List.replicate (ji20 : Int).toNat 0) := ⟨_, rfl⟩
    replace H : (dyad_Num_Mul.l0 kj2 y369 l0_1 (l0_1.length : Int) 0 a0_0 l0_1 a0_2 a1_0 l1_1 a1_2) = some (r1, r2, r3) := by first | (rw [hy369]; with_reducible exact H) | (have H2_ := (Option.bind_some _ _).symm.trans H; rw [hy369]; with_reducible exact H2_) | (have H2_ := (Option.bind_some _ _).symm.trans H; with_reducible exact H2_) | with_reducible exact H | (rw [hy369]; exact H) | exact H
    have Ny369 := Aside0.mk hy369
    clear hy369
    have H' := Aside0.mk H
    clear H
    have hnb23 := NB366_367.out
    have hnc23 := NB367_366.out
    have hnb24 := NB366_368.out
    have hnc24 := NB368_366.out
    have hcz25_0 := bc BK366 0 rfl
    have hcz25_1 := bc BK366 1 rfl
    have hcz25_2 := bc BK366 2 rfl
    have hfz25_0 := blk_frozen BK366.out 0
    have hfz25_1 := blk_frozen BK366.out 1
    have hfz25_2 := blk_frozen BK366.out 2
    have hnb26 := NB367_368.out
    have hnc26 := NB368_367.out
    have hcz27_0 := bc BK367 0 rfl
    have hcz27_1 := bc BK367 1 rfl
    have hcz27_2 := bc BK367 2 rfl
    have hfz27_0 := blk_frozen BK367.out 0
    have hfz27_1 := blk_frozen BK367.out 1
    have hfz27_2 := blk_frozen BK367.out 2
    go_wp2_with (first | ((with_reducible refine gate_dst (N := 29) rfl ?_); refine Kd.R_make (Kd.int .u32) _ 56 rfl (N := 29) rfl 24 _ _ rfl ji20 rfl rfl Tryd.underlying24 (.int .u32 0) 4 info56 rfl (by decide) (by omega) 0 (ok := fun _ => True) (okp := fun _ => True) rfl (fun _ hk => hk) trivial (of_decide_eq_true (by first | (with_reducible assumption) | assumption)) (Nat.le_trans (Nat.mul_le_mul_right _ (of_decide_eq_true (by first | (with_reducible assumption) | assumption) : ji20.toNat ≤ 70368744177664)) (by omega)) (Below.refl _ _) (Nat.le_refl _) ?_; intro v370 w28 ho29 hb hg_ hnew_; clear hg_ hnew_; (first | rw [← Ny369.out] at ho29 | (simp only [Int.reduceToNat] at ho29; rw [← Ny369.out] at ho29)); refine ax5 (Kd.R_lower (Kd.R_newM (M := fun k_ => (w.heap.size ≤ k_)) ho29 (below_size bes) (fun k_ h_ => h_)) (below_size bes)) (bb BK366 hb) (bb BK367 hb) (bb BK368 hb) (below_step bes hb) ?_; clear BK366; clear BK367; clear BK368; clear HB; intro HO371 BK366 BK367 BK368 HB; clear hb ho29; have hcz30_0 := bc BK366 0 rfl; have hcz30_1 := bc BK366 1 rfl; have hcz30_2 := bc BK366 2 rfl; have hfz30_0 := blk_frozen BK366.out 0; have hfz30_1 := blk_frozen BK366.out 1; have hfz30_2 := blk_frozen BK366.out 2))
    go_loopg [33] kj2 (fun kq v33 w' => ∃ (x5_2 : List Int) (x33_2 : Int), v33 = .int .i64 x33_2 ∧ Aside0 (dyad_Num_Mul.l0 kq x5_2 l0_1 (l0_1.length : Int) x33_2 a0_0 l0_1 a0_2 a1_0 l1_1 a1_2 = some (r1, r2, r3)) ∧ Aside0 (kq ≤ kj2) ∧ Aside0 (Kd.R (Kd.int .u32) 56 w' w.heap.size (fun k_ => (w.heap.size ≤ k_)) v370 x5_2) ∧ Aside0 (w'.heap[gb366]? = some (.cells #[.bool a0_0, (.slice A0_1 l0_1.length c0_1), .int .i64 a0_2] 26 (0, 0))) ∧ Aside0 (w'.heap[gb367]? = some (.cells #[.bool a1_0, (.slice A1_1 l1_1.length c1_1), .int .i64 a1_2] 26 (0, 0))) ∧ Aside0 (w'.heap[gb368]? = some (.cells #[.bool false, (.slice none 0 0), .int .i64 0] 26 (0, 0))) ∧ Aside0 (Below w.heap.size w w'))
    case atStart => exact ⟨(y369), (0), (by first | rfl | (simp; done) | (simp [*]; done)), H', ⟨Nat.le_refl _⟩, ⟨by (with_reducible repeat (first | apply Kd.R_alloc | apply Kd.R_drewN | apply Kd.R_drew)); exact Kd.R_mono HO371.out (fun _ hk => hk.1)⟩, ⟨kb BK366⟩, ⟨kb BK367⟩, ⟨kb BK368⟩, ⟨bes⟩⟩
    case round =>
     clear H'
     try clear c1
     try clear c2
     try clear p2
     try clear p6
     try clear c7
     try clear c7b0
     try clear c7b1
     try clear c7b2
     try clear c8
     try clear c9
     try clear c11
     try clear c12
     try clear c13
     try clear c14
     try clear c16
     try clear c17
     try clear c18
     try clear c21
     try clear c21b0
     try clear c21b1
     try clear c22
     try clear c22b0
     try clear c22b1
     try clear c23
     try clear c24
     try clear c26
     try clear hcz10_0
     try clear hcz10_1
     try clear hcz10_2
     try clear hcz13_0
     try clear hcz13_1
     try clear hcz13_2
     try clear hcz15_0
     try clear hcz15_1
     try clear hcz15_2
     try clear hcz19_0
     try clear hcz19_1
     try clear hcz19_2
     try clear hcz25_0
     try clear hcz25_1
     try clear hcz25_2
     try clear hcz27_0
     try clear hcz27_1
     try clear hcz27_2
     try clear hcz30_0
     try clear hcz30_1
     try clear hcz30_2
     try clear hfz10_0
     try clear hfz10_1
     try clear hfz10_2
     try clear hfz13_0
     try clear hfz13_1
     try clear hfz13_2
     try clear hfz15_0
     try clear hfz15_1
     try clear hfz15_2
     try clear hfz19_0
     try clear hfz19_1
     try clear hfz19_2
     try clear hfz25_0
     try clear hfz25_1
     try clear hfz25_2
     try clear hfz27_0
     try clear hfz27_1
     try clear hfz27_2
     try clear hfz30_0
     try clear hfz30_1
     try clear hfz30_2
     try clear p2
     obtain ⟨x5_2, x33_2, rfl, HA, HK2, HO_5, BK366, BK367, BK368, HB⟩ := hrel
     cases gk with
     | zero => exact absurd HA.out (by simp [dyad_Num_Mul.l0])
     | succ k2 =>
      have H := HA.out
      clear HA
      simp only [dyad_Num_Mul.l0] at H
      by_cases c31 : x33_2 < (l0_1.length : Int)
      ·
       rw [if_pos c31] at H
       have c31b0 : decide (x33_2 < (l0_1.length : Int)) = true := decide_eq_true c31
       clear c31
       by_cases c32 : 0 ≤ x33_2
       rotate_left
       ·
        rw [if_neg c32] at H
        exact absurd H (by simp)
       rw [if_pos c32] at H
       have c32b0 : decide (0 ≤ x33_2) = true := decide_eq_true c32
       clear c32
       by_cases c33 : x33_2 < (l0_1.length : Int)
       rotate_left
       ·
        rw [if_neg c33] at H
        exact absurd H (by simp)
       rw [if_pos c33] at H
       have c33b0 : decide (x33_2 < (l0_1.length : Int)) = true := decide_eq_true c33
       clear c33
       have H' := Aside0.mk H
       clear H
       have p377 : 0 ≤ (x33_2 : Int) := of_decide_eq_true (by first | (with_reducible assumption) | assumption)
       have q377 : x33_2 < (l0_1.length : Int) := of_decide_eq_true (by first | (with_reducible assumption) | assumption)
       obtain ⟨ad377, e377, hx377_0⟩ := Kd.at_int HR0_1.out x33_2 p377 q377
       cases e377
       replace hx377_0 := (HB.out.cell (World.block_lt_of_cell? w _ hx377_0)).trans hx377_0
       replace p377 := eq_true p377
       replace q377 := eq_true q377
       have hnb34 := NB367_366.out
       have hnc34 := NB366_367.out
       have hnb35 := NB367_368.out
       have hnc35 := NB368_367.out
       have hcz36_0 := bc BK367 0 rfl
       have hcz36_1 := bc BK367 1 rfl
       have hcz36_2 := bc BK367 2 rfl
       have hfz36_0 := blk_frozen BK367.out 0
       have hfz36_1 := blk_frozen BK367.out 1
       have hfz36_2 := blk_frozen BK367.out 2
       go_wp2
       go_loopg [8, 41] k2 (fun kq v8 v41 w' => ∃ (x5_3 : List Int) (x8_3 : Int) (x41_3 : Int), v8 = .int .u64 x8_3 ∧ v41 = .int .i64 x41_3 ∧ Aside0 (dyad_Num_Mul.l1 kq x5_3 x33_2 (rd l0_1 x33_2) x8_3 l0_1 (l0_1.length : Int) x33_2 l1_1 (l1_1.length : Int) x41_3 a0_0 l0_1 a0_2 a1_0 l1_1 a1_2 = some (r1, r2, r3)) ∧ Aside0 (kq ≤ k2) ∧ Aside0 (Kd.R (Kd.int .u32) 56 w' w.heap.size (fun k_ => (w.heap.size ≤ k_)) v370 x5_3) ∧ Aside0 (w'.heap[gb366]? = some (.cells #[.bool a0_0, (.slice (some ad377) l0_1.length c0_1), .int .i64 a0_2] 26 (0, 0))) ∧ Aside0 (w'.heap[gb367]? = some (.cells #[.bool a1_0, (.slice A1_1 l1_1.length c1_1), .int .i64 a1_2] 26 (0, 0))) ∧ Aside0 (w'.heap[gb368]? = some (.cells #[.bool false, (.slice none 0 0), .int .i64 0] 26 (0, 0))) ∧ Aside0 (Below w.heap.size w w'))
       case atStart => exact ⟨(x5_2), (0), (0), (by first | rfl | (simp; done) | (simp [*]; done)), (by first | rfl | (simp; done) | (simp [*]; done)), H', ⟨Nat.le_refl _⟩, ⟨kr HO_5⟩, ⟨kb BK366⟩, ⟨kb BK367⟩, ⟨kb BK368⟩, ⟨bes⟩⟩
       case round =>
        clear H'
        try clear c1
        try clear c2
        try clear p2
        try clear c3
        try clear p3
        try clear q3
        try clear hx3
        try clear p6
        try clear c7
        try clear c7b0
        try clear c7b1
        try clear c7b2
        try clear c8
        try clear c9
        try clear c11
        try clear c12
        try clear c13
        try clear c14
        try clear c16
        try clear c17
        try clear c18
        try clear c21
        try clear c21b0
        try clear c21b1
        try clear c22
        try clear c22b0
        try clear c22b1
        try clear c23
        try clear c24
        try clear c26
        try clear c31
        try clear c31b0
        try clear c32
        try clear c32b0
        try clear c33
        try clear c33b0
        try clear c34
        try clear c35
        try clear hcz10_0
        try clear hcz10_1
        try clear hcz10_2
        try clear hcz13_0
        try clear hcz13_1
        try clear hcz13_2
        try clear hcz15_0
        try clear hcz15_1
        try clear hcz15_2
        try clear hcz19_0
        try clear hcz19_1
        try clear hcz19_2
        try clear hcz25_0
        try clear hcz25_1
        try clear hcz25_2
        try clear hcz27_0
        try clear hcz27_1
        try clear hcz27_2
        try clear hcz30_0
        try clear hcz30_1
        try clear hcz30_2
        try clear hcz36_0
        try clear hcz36_1
        try clear hcz36_2
        try clear hfz10_0
        try clear hfz10_1
        try clear hfz10_2
        try clear hfz13_0
        try clear hfz13_1
        try clear hfz13_2
        try clear hfz15_0
        try clear hfz15_1
        try clear hfz15_2
        try clear hfz19_0
        try clear hfz19_1
        try clear hfz19_2
        try clear hfz25_0
        try clear hfz25_1
        try clear hfz25_2
        try clear hfz27_0
        try clear hfz27_1
        try clear hfz27_2
        try clear hfz30_0
        try clear hfz30_1
        try clear hfz30_2
        try clear hfz36_0
        try clear hfz36_1
        try clear hfz36_2
        try clear hx377_0
        try clear p2
        try clear p377
        try clear p6
        try clear q377
        obtain ⟨x5_3, x8_3, x41_3, rfl, rfl, HA, HK3, HO_5, BK366, BK367, BK368, HB⟩ := hrel
        cases gk with
        | zero => exact absurd HA.out (by simp [dyad_Num_Mul.l1])
        | succ k3 =>
         have H := HA.out
         clear HA
         simp only [dyad_Num_Mul.l1] at H
         by_cases c37 : x41_3 < (l1_1.length : Int)
         ·
          rw [if_pos c37] at H
          have c37b0 : decide (x41_3 < (l1_1.length : Int)) = true := decide_eq_true c37
          clear c37
          by_cases c38 : 0 ≤ x41_3
          rotate_left
          ·
           rw [if_neg c38] at H
           exact absurd H (by simp)
          rw [if_pos c38] at H
          have c38b0 : decide (0 ≤ x41_3) = true := decide_eq_true c38
          clear c38
          by_cases c39 : x41_3 < (l1_1.length : Int)
          rotate_left
          ·
           rw [if_neg c39] at H
           exact absurd H (by simp)
          rw [if_pos c39] at H
          have c39b0 : decide (x41_3 < (l1_1.length : Int)) = true := decide_eq_true c39
          clear c39
          obtain ⟨ji40, hji40⟩ : ∃ j_ : Int, (wrap64 (x33_2 + x41_3)) = j_ := ⟨_, rfl⟩
          replace H : (if 0 ≤ (ji40) then (if (ji40) < (x5_3.length : Int) then (dyad_Num_Mul.l1 k3 (x5_3.set ((ji40) : Int).toNat ((IntKind.u64.wrap (x8_3 + (IntKind.u64.wrap ((IntKind.u64.wrap (rd x5_3 (ji40))) + (IntKind.u64.wrap ((IntKind.u64.wrap ((rd l0_1 x33_2))) * (IntKind.u64.wrap (rd l1_1 x41_3)))))))) % 4294967296)) x33_2 (rd l0_1 x33_2) ((IntKind.u64.wrap (x8_3 + (IntKind.u64.wrap ((IntKind.u64.wrap (rd x5_3 (ji40))) + (IntKind.u64.wrap ((IntKind.u64.wrap ((rd l0_1 x33_2))) * (IntKind.u64.wrap (rd l1_1 x41_3)))))))) / 4294967296) l0_1 (l0_1.length : Int) x33_2 l1_1 (l1_1.length : Int) (wrap64 (x41_3 + 1)) a0_0 l0_1 a0_2 a1_0 l1_1 a1_2) else (none)) else (none)) = some (r1, r2, r3) := by first | (rw [hji40] at H; exact H) | (simp only [hji40] at H ⊢; exact H)
          have hji40w : (IntKind.i64.wrap (x33_2 + x41_3)) = ji40 := (i64_w _).trans hji40
          by_cases c41 : 0 ≤ (ji40)
          rotate_left
          ·
           rw [if_neg c41] at H
           exact absurd H (by simp)
          rw [if_pos c41] at H
          have c41b0 : decide (0 ≤ (ji40)) = true := decide_eq_true c41
          clear c41
          by_cases c42 : (ji40) < (x5_3.length : Int)
          rotate_left
          ·
           rw [if_neg c42] at H
           exact absurd H (by simp)
          rw [if_pos c42] at H
          have c42b0 : decide ((ji40) < (x5_3.length : Int)) = true := decide_eq_true c42
          clear c42
          obtain ⟨y380, hy380⟩ : ∃ y_ : List Int, y_ = (x5_3.set ((ji40) : Int).toNat ((IntKind.u64.wrap (x8_3 + (IntKind.u64.wrap ((IntKind.u64.wrap (rd x5_3 (ji40))) + (IntKind.u64.wrap ((IntKind.u64.wrap ((rd l0_1 x33_2))) * (IntKind.u64.wrap (rd l1_1 x41_3)))))))) % 4294967296)) := ⟨_, rfl⟩
          replace H : (dyad_Num_Mul.l1 k3 y380 x33_2 (rd l0_1 x33_2) ((IntKind.u64.wrap (x8_3 + (IntKind.u64.wrap ((IntKind.u64.wrap (rd x5_3 (ji40))) + (IntKind.u64.wrap ((IntKind.u64.wrap ((rd l0_1 x33_2))) * (IntKind.u64.wrap (rd l1_1 x41_3)))))))) / 4294967296) l0_1 (l0_1.length : Int) x33_2 l1_1 (l1_1.length : Int) (wrap64 (x41_3 + 1)) a0_0 l0_1 a0_2 a1_0 l1_1 a1_2) = some (r1, r2, r3) := by first | (rw [hy380]; with_reducible exact H) | (have H2_ := (Option.bind_some _ _).symm.trans H; rw [hy380]; with_reducible exact H2_) | (have H2_ := (Option.bind_some _ _).symm.trans H; with_reducible exact H2_) | with_reducible exact H | (rw [hy380]; exact H) | exact H
          have Ny380 := Aside0.mk hy380
          clear hy380
          have H' := Aside0.mk H
          clear H
          have p378 : 0 ≤ (x41_3 : Int) := of_decide_eq_true (by first | (with_reducible assumption) | assumption)
          have q378 : x41_3 < (l1_1.length : Int) := of_decide_eq_true (by first | (with_reducible assumption) | assumption)
          obtain ⟨ad378, e378, hx378_0⟩ := Kd.at_int HR1_1.out x41_3 p378 q378
          cases e378
          replace hx378_0 := (HB.out.cell (World.block_lt_of_cell? w _ hx378_0)).trans hx378_0
          replace p378 := eq_true p378
          replace q378 := eq_true q378
          obtain ⟨Ao44, co44, eo44⟩ := Kd.R_slice HO_5.out
          subst eo44
          have p379 : 0 ≤ ((ji40) : Int) := of_decide_eq_true (by first | (with_reducible assumption) | assumption)
          have q379 : (ji40) < (x5_3.length : Int) := of_decide_eq_true (by first | (with_reducible assumption) | assumption)
          obtain ⟨ad379, e379, hx379_0⟩ := Kd.at_int (Kd.R_reads' HO_5.out).2.2 (ji40) p379 q379
          cases e379
          replace p379 := eq_true p379
          replace q379 := eq_true q379
          have p43 : 0 ≤ ((ji40) : Int) := of_decide_eq_true (by first | (with_reducible assumption) | assumption)
          have q43 : ((ji40) : Int) < ((x5_3.length : Int) : Int) := of_decide_eq_true (by first | (with_reducible assumption) | assumption)
          obtain ⟨go43, co43, eo43, gb43, gl43, cl43, HG43⟩ := Kd.R_form HO_5.out (by omega)
          (first | cases eo43 | (injection eo43 with ea_ en_ ec_; (first | subst ea_ | (injection ea_ with ea_; subst ea_)); subst ec_; clear en_))
          have GB43 := Aside0.mk gb43
          have GG43 := Aside0.mk HG43
          clear gb43 gl43 HG43
          (first | simp only [add_plain] at hx379_0 | skip)
          obtain ⟨hx43_0, hf43_0⟩ := Kd.R_celln 0 HO_5.out ((ji40) : Int) p43 q43
          replace p43 := eq_true p43
          replace q43 := eq_true q43
          have HP45 := Kd.R_putg HO_5.out ((ji40) : Int) ((IntKind.u64.wrap (x8_3 + (IntKind.u64.wrap ((IntKind.u64.wrap (rd x5_3 (ji40))) + (IntKind.u64.wrap ((IntKind.u64.wrap ((rd l0_1 x33_2))) * (IntKind.u64.wrap (rd l1_1 x41_3)))))))) % 4294967296)
          go_wp2_with (first | ((with_reducible refine gate_store (t := 56) (p := 69) rfl ?_); refine store_event (t := 56) (p := 69) (v := ?vo_w46) (w1 := (wr.setCell ⟨go43, ((ji40) : Int).toNat, none⟩ (.int .u32 ((IntKind.u64.wrap (x8_3 + (IntKind.u64.wrap ((IntKind.u64.wrap (rd x5_3 (ji40))) + (IntKind.u64.wrap ((IntKind.u64.wrap ((rd l0_1 x33_2))) * (IntKind.u64.wrap (rd l1_1 x41_3)))))))) % 4294967296)))) ?hg ?ho ?hn ?hr ?_; (case ho => rfl); (case hg => rfl); (case hn => rfl); (case hr => first | (go_simp; done) | (go_simp; rfl)); intro w46 hw; have hg : wr.grownBy w46 (some go43) := (by rw [hw]; exact HP45.2); have hp_ : Kd.R (Kd.int .u32) 56 w46 w.heap.size (fun k_ => (w.heap.size ≤ k_)) (.slice (some ⟨go43, 0, none⟩) x5_3.length co44) y380 := (by rw [hw, Ny380.out]; exact HP45.1); clear HP45; refine ax5 hp_ (blk_grown (g := gb366) (o := .cells #[.bool a0_0, .slice (some ad377) l0_1.length c0_1, .int .i64 a0_2] 26 (0, 0)) (kb BK366) hg (Kd.R_ne HO_5.out BK366.out (by decide))) (blk_grown (g := gb367) (o := .cells #[.bool a1_0, .slice (some ad378) l1_1.length c1_1, .int .i64 a1_2] 26 (0, 0)) (kb BK367) hg (Kd.R_ne HO_5.out BK367.out (by decide))) (blk_grown (g := gb368) (o := .cells #[.bool false, .slice none 0 0, .int .i64 0] 26 (0, 0)) (kb BK368) hg (Kd.R_ne HO_5.out BK368.out (by decide))) ((by rw [hw]; exact below_set (HB.out) GB43.out : Below w.heap.size w w46)) ?_; clear HO_5; clear BK366; clear BK367; clear BK368; clear HB; intro HO_5 BK366 BK367 BK368 HB; clear hg hw hp_))
          go_roundg k3
          case measure => have := HJ2.out; have := HK2.out; have := HK3.out; omega
          case rel => exact ⟨(y380), ((IntKind.u64.wrap (x8_3 + (IntKind.u64.wrap ((IntKind.u64.wrap (rd x5_3 (ji40))) + (IntKind.u64.wrap ((IntKind.u64.wrap ((rd l0_1 x33_2))) * (IntKind.u64.wrap (rd l1_1 x41_3)))))))) / 4294967296), (wrap64 (x41_3 + 1)), (by first | rfl | (simp; done) | (simp only [← hji40] <;> (first | rfl | simp)) | (simp [*]; done)), (by first | rfl | (simp; done) | (simp [*]; done)), H', ⟨by have := HJ2.out; have := HK2.out; have := HK3.out; omega⟩, ⟨kr HO_5⟩, ⟨kb BK366⟩, ⟨kb BK367⟩, ⟨kb BK368⟩, ⟨bes⟩⟩
         ·
          rw [if_neg c37] at H
          have c37b0 : decide (x41_3 < (l1_1.length : Int)) = false := decide_eq_false c37
          clear c37
          obtain ⟨ji47, hji47⟩ : ∃ j_ : Int, (wrap64 (x33_2 + (l1_1.length : Int))) = j_ := ⟨_, rfl⟩
          replace H : (if 0 ≤ (ji47) then (if (ji47) < (x5_3.length : Int) then (dyad_Num_Mul.l0 k3 (x5_3.set ((ji47) : Int).toNat ((x8_3) % 4294967296)) l0_1 (l0_1.length : Int) (wrap64 (x33_2 + 1)) a0_0 l0_1 a0_2 a1_0 l1_1 a1_2) else (none)) else (none)) = some (r1, r2, r3) := by first | (rw [hji47] at H; exact H) | (simp only [hji47] at H ⊢; exact H)
          have hji47w : (IntKind.i64.wrap (x33_2 + (l1_1.length : Int))) = ji47 := (i64_w _).trans hji47
          by_cases c48 : 0 ≤ (ji47)
          rotate_left
          ·
           rw [if_neg c48] at H
           exact absurd H (by simp)
          rw [if_pos c48] at H
          have c48b0 : decide (0 ≤ (ji47)) = true := decide_eq_true c48
          clear c48
          by_cases c49 : (ji47) < (x5_3.length : Int)
          rotate_left
          ·
           rw [if_neg c49] at H
           exact absurd H (by simp)
          rw [if_pos c49] at H
          have c49b0 : decide ((ji47) < (x5_3.length : Int)) = true := decide_eq_true c49
          clear c49
          obtain ⟨y381, hy381⟩ : ∃ y_ : List Int, y_ = (x5_3.set ((ji47) : Int).toNat ((x8_3) % 4294967296)) := ⟨_, rfl⟩
          replace H : (dyad_Num_Mul.l0 k3 y381 l0_1 (l0_1.length : Int) (wrap64 (x33_2 + 1)) a0_0 l0_1 a0_2 a1_0 l1_1 a1_2) = some (r1, r2, r3) := by first | (rw [hy381]; with_reducible exact H) | (have H2_ := (Option.bind_some _ _).symm.trans H; rw [hy381]; with_reducible exact H2_) | (have H2_ := (Option.bind_some _ _).symm.trans H; with_reducible exact H2_) | with_reducible exact H | (rw [hy381]; exact H) | exact H
          have Ny381 := Aside0.mk hy381
          clear hy381
          have H' := Aside0.mk H
          clear H
          have hnb51 := NB367_366.out
          have hnc51 := NB366_367.out
          have hnb52 := NB367_368.out
          have hnc52 := NB368_367.out
          have hcz53_0 := bc BK367 0 rfl
          have hcz53_1 := bc BK367 1 rfl
          have hcz53_2 := bc BK367 2 rfl
          have hfz53_0 := blk_frozen BK367.out 0
          have hfz53_1 := blk_frozen BK367.out 1
          have hfz53_2 := blk_frozen BK367.out 2
          have p50 : 0 ≤ ((ji47) : Int) := of_decide_eq_true (by first | (with_reducible assumption) | assumption)
          have q50 : ((ji47) : Int) < ((x5_3.length : Int) : Int) := of_decide_eq_true (by first | (with_reducible assumption) | assumption)
          obtain ⟨go50, co50, eo50, gb50, gl50, cl50, HG50⟩ := Kd.R_form HO_5.out (by omega)
          (first | cases eo50 | (injection eo50 with ea_ en_ ec_; (first | subst ea_ | (injection ea_ with ea_; subst ea_)); subst ec_; clear en_))
          have GB50 := Aside0.mk gb50
          have GG50 := Aside0.mk HG50
          clear gb50 gl50 HG50
          obtain ⟨hx50_0, hf50_0⟩ := Kd.R_celln 0 HO_5.out ((ji47) : Int) p50 q50
          replace p50 := eq_true p50
          replace q50 := eq_true q50
          have HP54 := Kd.R_putg HO_5.out ((ji47) : Int) ((x8_3) % 4294967296)
          go_wp2_with (first | ((with_reducible refine gate_store (t := 56) (p := 79) rfl ?_); refine store_event (t := 56) (p := 79) (v := ?vo_w55) (w1 := (wr.setCell ⟨go50, ((ji47) : Int).toNat, none⟩ (.int .u32 ((x8_3) % 4294967296)))) ?hg ?ho ?hn ?hr ?_; (case ho => rfl); (case hg => rfl); (case hn => rfl); (case hr => first | (go_simp; done) | (go_simp; rfl)); intro w55 hw; have hg : wr.grownBy w55 (some go50) := (by rw [hw]; exact HP54.2); have hp_ : Kd.R (Kd.int .u32) 56 w55 w.heap.size (fun k_ => (w.heap.size ≤ k_)) (.slice (some ⟨go50, 0, none⟩) x5_3.length co50) y381 := (by rw [hw, Ny381.out]; exact HP54.1); clear HP54; refine ax5 hp_ (blk_grown (g := gb366) (o := .cells #[.bool a0_0, .slice (some ad377) l0_1.length c0_1, .int .i64 a0_2] 26 (0, 0)) (kb BK366) hg (Kd.R_ne HO_5.out BK366.out (by decide))) (blk_grown (g := gb367) (o := .cells #[.bool a1_0, .slice A1_1 l1_1.length c1_1, .int .i64 a1_2] 26 (0, 0)) (kb BK367) hg (Kd.R_ne HO_5.out BK367.out (by decide))) (blk_grown (g := gb368) (o := .cells #[.bool false, .slice none 0 0, .int .i64 0] 26 (0, 0)) (kb BK368) hg (Kd.R_ne HO_5.out BK368.out (by decide))) ((by rw [hw]; exact below_set (HB.out) GB50.out : Below w.heap.size w w55)) ?_; clear HO_5; clear BK366; clear BK367; clear BK368; clear HB; intro HO_5 BK366 BK367 BK368 HB; clear hg hw hp_))
          go_roundg k3
          case measure => have := HJ2.out; have := HK2.out; have := HK3.out; omega
          case rel => exact ⟨(y381), (wrap64 (x33_2 + 1)), (by first | rfl | (simp; done) | (simp [*]; done)), H', ⟨by have := HJ2.out; have := HK2.out; have := HK3.out; omega⟩, ⟨kr HO_5⟩, ⟨kb BK366⟩, ⟨kb BK367⟩, ⟨kb BK368⟩, ⟨bes⟩⟩
      ·
       rw [if_neg c31] at H
       have c31b0 : decide (x33_2 < (l0_1.length : Int)) = false := decide_eq_false c31
       clear c31
       obtain ⟨⟨t372, t373, t376⟩, A560, H⟩ := Option.bind_eq_some_iff.mp H
       (try dsimp -simprocs only at H)
       have A56 := Aside0.mk A560
       clear A560
       simp only [Option.some.injEq, Prod.mk.injEq] at H
       obtain ⟨rfl, rfl, rfl⟩ := H
       have hnb57 := NB366_367.out
       have hnc57 := NB367_366.out
       have hnb58 := NB366_368.out
       have hnc58 := NB368_366.out
       have hcz59_0 := bc BK366 0 rfl
       have hcz59_1 := bc BK366 1 rfl
       have hcz59_2 := bc BK366 2 rfl
       have hfz59_0 := blk_frozen BK366.out 0
       have hfz59_1 := blk_frozen BK366.out 1
       have hfz59_2 := blk_frozen BK366.out 2
       have hnb60 := NB367_368.out
       have hnc60 := NB368_367.out
       have hcz61_0 := bc BK367 0 rfl
       have hcz61_1 := bc BK367 1 rfl
       have hcz61_2 := bc BK367 2 rfl
       have hfz61_0 := blk_frozen BK367.out 0
       have hfz61_1 := blk_frozen BK367.out 1
       have hfz61_2 := blk_frozen BK367.out 2
       obtain ⟨Ao62, co62, eo62⟩ := Kd.R_slice HO_5.out
       subst eo62
       go_wp2_with (first | ((with_reducible refine gate_callee (f := 33) rfl ?_); refine goesL_ (some 92) rfl rfl Tryd.func33 (by kernel_rfl) rfl #[.bool (a0_0 != a1_0), .slice Ao62 x5_2.length co62, .int .i64 (wrap64 (a0_2 + a1_2))] rfl ga ?_; (with_reducible refine (dyad_trim.calls k2 (a0_0 != a1_0) (fun k_ => some k_ = (.slice Ao62 x5_2.length co62 : Value).ownBlock) _ _ x5_2 (wrap64 (a0_2 + a1_2)) t372 t373 t376 _ ?side1 ?side2 A56.out).mono ?_); (case side1 => exact Kd.R_V (Kd.R_tight rfl (Kd.R_types (Kd.R_types (Kd.R_types (HO_5.out) BK366.out (by decide)) BK367.out (by decide)) BK368.out (by decide)))); (case side2 => first | exact hT | exact TabW.drewN hT _ | exact TabW.drew hT | exact TabW.below hT bes); rintro e w63 ⟨v374, rfl, ho0, hb⟩; refine ⟨_, rfl, ?_⟩; refine ax6 (Kd.R_below (kr HO_5) hb) (Kd.V_lower (Kd.V_mono (ok' := fun k_ => (w.heap.size ≤ k_) ∧ k_ ≠ gb366 ∧ k_ ≠ gb367 ∧ k_ ≠ gb368) ho0 (fun k_ hk_ => ⟨Or.elim hk_ (fun hs_ => ((Kd.R_types (Kd.R_types (Kd.R_types (HO_5.out) BK366.out (by decide)) BK367.out (by decide)) BK368.out (by decide)).1 k_ hs_.symm).1.1.1) (fun hn_ => (Nat.le_trans (below_size bes) hn_)), Or.elim hk_ (fun hs_ => ((Kd.R_types (Kd.R_types (Kd.R_types (HO_5.out) BK366.out (by decide)) BK367.out (by decide)) BK368.out (by decide)).1 k_ hs_.symm).1.1.2) (fun hn_ => (fb BK366 k_ hn_)), Or.elim hk_ (fun hs_ => ((Kd.R_types (Kd.R_types (Kd.R_types (HO_5.out) BK366.out (by decide)) BK367.out (by decide)) BK368.out (by decide)).1 k_ hs_.symm).1.2) (fun hn_ => (fb BK367 k_ hn_)), Or.elim hk_ (fun hs_ => ((Kd.R_types (Kd.R_types (Kd.R_types (HO_5.out) BK366.out (by decide)) BK367.out (by decide)) BK368.out (by decide)).1 k_ hs_.symm).2) (fun hn_ => (fb BK368 k_ hn_))⟩)) (below_size bes)) (bb BK366 hb) (bb BK367 hb) (bb BK368 hb) (below_step bes hb) ?_; clear HO_5; clear BK366; clear BK367; clear BK368; clear HB; intro HO_5 HO375 BK366 BK367 BK368 HB; (try clear hb); (try clear ho0); have hcz64_0 := bc BK368 0 rfl; have hcz64_1 := bc BK368 1 rfl; have hcz64_2 := bc BK368 2 rfl; have hfz64_0 := blk_frozen BK368.out 0; have hfz64_1 := blk_frozen BK368.out 1; have hfz64_2 := blk_frozen BK368.out 2; obtain ⟨Ao65, co65, eo65⟩ := Kd.V_slice HO375.out; subst eo65))
       refine bodyPost_ret (results_cell_row rfl _ _ gb368 26 #[.bool t372, .slice Ao65 t373.length co65, .int .i64 t376] (0, 0) _ rfl (by (with_reducible repeat (first | refine blk_drewN ?_ _ | refine blk_drew ?_ | refine blk_alloc ?_ _)); refine blk_put (cs := #[.bool t372, .slice Ao65 t373.length co65, .int .i64 0]) ?_ 2 _ rfl; (with_reducible repeat (first | refine blk_drewN ?_ _ | refine blk_drew ?_ | refine blk_alloc ?_ _)); refine blk_put (cs := #[.bool t372, .slice none 0 0, .int .i64 0]) ?_ 1 _ rfl; (with_reducible repeat (first | refine blk_drewN ?_ _ | refine blk_drew ?_ | refine blk_alloc ?_ _)); refine blk_put (cs := #[.bool false, .slice none 0 0, .int .i64 0]) ?_ 0 _ rfl; (with_reducible repeat (first | refine blk_drewN ?_ _ | refine blk_drew ?_ | refine blk_alloc ?_ _)); exact BK368.out) Tryd.underlying26 rfl (by kernel_rfl)) rfl ?_
       exact ⟨_, by first | rfl | (simp [errW_none, errW_some] <;> rfl) | (simp only [← hji20]; first | rfl | (simp [errW_none, errW_some] <;> rfl)) | (simp [*, errW_none, errW_some] <;> rfl), by (with_reducible repeat (first | apply Kd.V_alloc | apply Kd.V_drewN | apply Kd.V_drew)); exact Kd.V_mono (Kd.V_far (p := ⟨gb368, 2, none⟩) (Kd.V_far (p := ⟨gb368, 1, none⟩) (Kd.V_far (p := ⟨gb368, 0, none⟩) (Kd.V_mono HO375.out (fun k_ hk => (⟨hk, hk.2.2.2⟩ : _ ∧ k_ ≠ gb368))) (fun _ hk => hk.2) (.bool t372)) (fun _ hk => hk.2) (.slice Ao65 t373.length co65)) (fun _ hk => hk.2) (.int .i64 t376)) (fun _ hk => hk.1.1), bes⟩
end Go.Proofs.YtakegikedpcilaaDoor.F
