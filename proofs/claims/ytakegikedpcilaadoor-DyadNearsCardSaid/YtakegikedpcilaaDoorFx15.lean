-- Written by a program of this seat's session (mkprint), out of the translation.
import Derived.Test.YtakegikedpcilaaDoorShort
import Derived.Test.YtakegikedpcilaaDoorFx0
import Derived.Test.YtakegikedpcilaaDoorFx2
import Derived.Test.YtakegikedpcilaaDoorFx4
import Derived.Test.YtakegikedpcilaaDoorFx8
import Derived.Test.YtakegikedpcilaaDoorFx9
import Derived.Test.YtakegikedpcilaaDoorFx14
namespace Go.Proofs.YtakegikedpcilaaDoor.F
open Go.RowKit Go.Proofs.YtakegikedpcilaaDoorW.PrintWords Go.Proofs.YtakegikedpcilaaDoorW.PrintLast Go.Proofs.YtakegikedpcilaaDoorW.PrintMore
attribute [local go_sem] max2_int min2_int max_two min_two max_three min_three max_four min_four   -- for this text's walks alone
set_option linter.unusedVariables false
set_option linter.unusedSimpArgs false

/-! ### gimballaw07_DyadNears: function 3 -/
mutual
def gimballaw07_DyadNears.j0 : Nat → Int → Int → Bool → Bool → Bool → Bool → List Int → Int → Bool → List Int → Int → Option (Bool)
 | 0, _, _, _, _, _, _, _, _, _, _, _ => none
 | k + 1, x0, x1, x6, x8, x47, x646000, x646001, x646002, x653000, x653001, x653002 => if x47 = true then (some false) else (if x6 = true then (gimballaw07_DyadNears.j1 k x0 x1 (!x8) x646000 x646001 x646002 x653000 x653001 x653002) else (gimballaw07_DyadNears.j1 k x0 x1 true x646000 x646001 x646002 x653000 x653001 x653002))
def gimballaw07_DyadNears.j1 : Nat → Int → Int → Bool → Bool → List Int → Int → Bool → List Int → Int → Option (Bool)
 | 0, _, _, _, _, _, _, _, _, _ => none
 | k + 1, x0, x1, x53, x646000, x646001, x646002, x653000, x653001, x653002 => if x53 = true then (some true) else ((dyad_Num_Add.f k x646000 x646001 x646002 x653000 x653001 x653002).bind fun bt656 => ((dyad_Num_Near.f k bt656.1 bt656.2.1 bt656.2.2).bind fun bt661 => ((dyad_Num_Mul.f k x646000 x646001 x646002 x653000 x653001 x653002).bind fun bt663 => ((dyad_Num_Near.f k bt663.1 bt663.2.1 bt663.2.2).bind fun bt668 => ((gimbalref04_Add.f k x0 x1).bind fun bt670 => ((gimbalref04_Mul.f k x0 x1).bind fun bt672 => (if bt670.1 = 9223372036854775808 then (gimballaw07_DyadNears.j2 k bt661.1 bt661.2 bt668.1 bt668.2 0 bt670.2 bt672.1 bt672.2) else (gimballaw07_DyadNears.j2 k bt661.1 bt661.2 bt668.1 bt668.2 bt670.1 bt670.2 bt672.1 bt672.2))))))))
def gimballaw07_DyadNears.j2 : Nat → Int → Int → Int → Int → Int → Int → Int → Int → Option (Bool)
 | 0, _, _, _, _, _, _, _, _ => none
 | k + 1, x9, x10, x11, x12, x13, x14, x15, x16 => if x15 = 9223372036854775808 then (gimballaw07_DyadNears.j3 k x9 x10 x11 x12 x13 x14 x15 x16 (x16 == 0)) else (gimballaw07_DyadNears.j3 k x9 x10 x11 x12 x13 x14 x15 x16 false)
def gimballaw07_DyadNears.j3 : Nat → Int → Int → Int → Int → Int → Int → Int → Int → Bool → Option (Bool)
 | 0, _, _, _, _, _, _, _, _, _ => none
 | k + 1, x9, x10, x11, x12, x13, x14, x15, x16, x87 => if x87 = true then (if x9 = x13 then (if (wrap64 (x10)) = x14 then (if x11 = 0 then (some ((wrap64 (x12)) == x16)) else (some false)) else (some false)) else (some false)) else (if x9 = x13 then (if (wrap64 (x10)) = x14 then (if x11 = x15 then (some ((wrap64 (x12)) == x16)) else (some false)) else (some false)) else (some false))
end
def gimballaw07_DyadNears.f (k : Nat) (a0 : Int) (a1 : Int) : Option (Bool) := (gimballaw07_head.f k).bind fun t638 => (if t638 = true then ((dyad_Of.f k a0).bind fun bt639 => ((dyad_Of.f k a1).bind fun bt646 => ((word_Finite.f a0).bind fun t653 => (if (bt639.2.2.2 != t653) = true then (gimballaw07_DyadNears.j0 k a0 a1 bt639.2.2.2 bt646.2.2.2 true bt639.1 bt639.2.1 bt639.2.2.1 bt646.1 bt646.2.1 bt646.2.2.1) else ((word_Finite.f a1).bind fun t654 => (if (bt646.2.2.2 != t654) = true then (gimballaw07_DyadNears.j0 k a0 a1 bt639.2.2.2 bt646.2.2.2 true bt639.1 bt639.2.1 bt639.2.2.1 bt646.1 bt646.2.1 bt646.2.2.1) else (if bt639.2.2.2 = true then (gimballaw07_DyadNears.j0 k a0 a1 bt639.2.2.2 bt646.2.2.2 false bt639.1 bt639.2.1 bt639.2.2.1 bt646.1 bt646.2.1 bt646.2.2.1) else ((dyad_Num_Sign.f bt639.1 bt639.2.1 bt639.2.2.1).bind fun t655 => (gimballaw07_DyadNears.j0 k a0 a1 bt639.2.2.2 bt646.2.2.2 (t655 != 0) bt639.1 bt639.2.1 bt639.2.2.1 bt646.1 bt646.2.1 bt646.2.2.1))))))))) else (some false))
theorem gimballaw07_DyadNears.mono_l : ∀ k, (∀ y0 y1 y2 y3 y4 y5 y6 y7 y8 y9 y10, LeO (gimballaw07_DyadNears.j0 k y0 y1 y2 y3 y4 y5 y6 y7 y8 y9 y10) (gimballaw07_DyadNears.j0 (k + 1) y0 y1 y2 y3 y4 y5 y6 y7 y8 y9 y10)) ∧ (∀ y0 y1 y2 y3 y4 y5 y6 y7 y8, LeO (gimballaw07_DyadNears.j1 k y0 y1 y2 y3 y4 y5 y6 y7 y8) (gimballaw07_DyadNears.j1 (k + 1) y0 y1 y2 y3 y4 y5 y6 y7 y8)) ∧ (∀ y0 y1 y2 y3 y4 y5 y6 y7, LeO (gimballaw07_DyadNears.j2 k y0 y1 y2 y3 y4 y5 y6 y7) (gimballaw07_DyadNears.j2 (k + 1) y0 y1 y2 y3 y4 y5 y6 y7)) ∧ (∀ y0 y1 y2 y3 y4 y5 y6 y7 y8, LeO (gimballaw07_DyadNears.j3 k y0 y1 y2 y3 y4 y5 y6 y7 y8) (gimballaw07_DyadNears.j3 (k + 1) y0 y1 y2 y3 y4 y5 y6 y7 y8))
 | 0 => ⟨fun _ _ _ _ _ _ _ _ _ _ _ r h => by simp [gimballaw07_DyadNears.j0] at h, fun _ _ _ _ _ _ _ _ _ r h => by simp [gimballaw07_DyadNears.j1] at h, fun _ _ _ _ _ _ _ _ r h => by simp [gimballaw07_DyadNears.j2] at h, fun _ _ _ _ _ _ _ _ _ r h => by simp [gimballaw07_DyadNears.j3] at h⟩
 | k + 1 => by
  obtain ⟨ih0, ih1, ih2, ih3⟩ := gimballaw07_DyadNears.mono_l k
  refine ⟨?_, ?_, ?_, ?_⟩ <;> intros <;> (first | unfold gimballaw07_DyadNears.j0 | unfold gimballaw07_DyadNears.j1 | unfold gimballaw07_DyadNears.j2 | unfold gimballaw07_DyadNears.j3) <;>
   repeat' with_reducible first | apply ih0 | apply ih1 | apply ih2 | apply ih3 | apply dyad_Num_Add.mono | apply dyad_Num_Mul.mono | apply dyad_Num_Near.mono | apply dyad_Of.mono | apply gimballaw07_head.mono | apply gimbalref04_Add.mono | apply gimbalref04_Mul.mono | exact LeO.refl _ | exact LeO.none _ | refine LeO.ite ?_ ?_ | refine LeO.bind ?_ (fun _ => ?_)
theorem gimballaw07_DyadNears.mono : ∀ a0 a1 k, LeO (gimballaw07_DyadNears.f k a0 a1) (gimballaw07_DyadNears.f (k + 1) a0 a1) := by
 intro a0 a1 k
 obtain ⟨ih0, ih1, ih2, ih3⟩ := gimballaw07_DyadNears.mono_l k
 unfold gimballaw07_DyadNears.f
 repeat' with_reducible first | apply ih0 | apply ih1 | apply ih2 | apply ih3 | apply dyad_Num_Add.mono | apply dyad_Num_Mul.mono | apply dyad_Num_Near.mono | apply dyad_Of.mono | apply gimballaw07_head.mono | apply gimbalref04_Add.mono | apply gimbalref04_Mul.mono | exact LeO.refl _ | exact LeO.none _ | refine LeO.ite ?_ ?_ | refine LeO.bind ?_ (fun _ => ?_)
set_option maxHeartbeats 8000000 in
set_option maxRecDepth 100000 in
theorem gimballaw07_DyadNears.calls (k : Nat) (a0 : Int) (a1 : Int) (r : Bool) (w : World) (hT : TabW w) (h : gimballaw07_DyadNears.f k a0 a1 = some r) :
  Calls Tryd.prog 3 #[.int .u64 a0, .int .u64 a1] w fun e w' => e = .returned (.bool r) ∧ Below w.heap.size w w' := by
 have hu26 := Tryd.underlying26
 have HB := Aside0.mk (Below.refl w.heap.size w)
 have H : ((gimballaw07_head.f k).bind fun t638 => (if t638 = true then ((dyad_Of.f k a0).bind fun bt639 => ((dyad_Of.f k a1).bind fun bt646 => ((word_Finite.f a0).bind fun t653 => (if (bt639.2.2.2 != t653) = true then (gimballaw07_DyadNears.j0 k a0 a1 bt639.2.2.2 bt646.2.2.2 true bt639.1 bt639.2.1 bt639.2.2.1 bt646.1 bt646.2.1 bt646.2.2.1) else ((word_Finite.f a1).bind fun t654 => (if (bt646.2.2.2 != t654) = true then (gimballaw07_DyadNears.j0 k a0 a1 bt639.2.2.2 bt646.2.2.2 true bt639.1 bt639.2.1 bt639.2.2.1 bt646.1 bt646.2.1 bt646.2.2.1) else (if bt639.2.2.2 = true then (gimballaw07_DyadNears.j0 k a0 a1 bt639.2.2.2 bt646.2.2.2 false bt639.1 bt639.2.1 bt639.2.2.1 bt646.1 bt646.2.1 bt646.2.2.1) else ((dyad_Num_Sign.f bt639.1 bt639.2.1 bt639.2.2.1).bind fun t655 => (gimballaw07_DyadNears.j0 k a0 a1 bt639.2.2.2 bt646.2.2.2 (t655 != 0) bt639.1 bt639.2.1 bt639.2.2.1 bt646.1 bt646.2.1 bt646.2.2.1))))))))) else (some false))) = some r := h
 clear h
 obtain ⟨t638, A30, H⟩ := Option.bind_eq_some_iff.mp H
 (try dsimp -simprocs only at H)
 have A3 := Aside0.mk A30
 clear A30
 by_cases c4 : t638 = true
 ·
  subst c4
  rw [if_pos rfl] at H
  obtain ⟨⟨t639, t640, t643, t644⟩, A50, H⟩ := Option.bind_eq_some_iff.mp H
  (try dsimp -simprocs only at H)
  have A5 := Aside0.mk A50
  clear A50
  obtain ⟨⟨t646, t647, t650, t651⟩, A60, H⟩ := Option.bind_eq_some_iff.mp H
  (try dsimp -simprocs only at H)
  have A6 := Aside0.mk A60
  clear A60
  have HC7 := Aside0.mk H
  clear H
  go_enter Tryd.func3, Tryd.ntmps3
  go_upto_region 5 with (first | ((with_reducible refine gate_callee (f := 7) rfl ?_); refine goesL_ (some 17) rfl rfl Tryd.func7 (by kernel_rfl) rfl #[] rfl ga ?_; (with_reducible refine (gimballaw07_head.calls k  true _ ?side1 A3.out).mono ?_); (case side1 => first | exact hT | exact TabW.drewN hT _ | exact TabW.drew hT | exact TabW.below hT bel); rintro e w8 ⟨rfl, hb⟩; refine ⟨_, rfl, ?_⟩; refine ax1 (below_step bel hb) ?_; clear HB; intro HB; (try clear hb)) | ((with_reducible refine gate_callee (f := 8) rfl ?_); refine goesL_ (some 21) rfl rfl Tryd.func8 (by kernel_rfl) rfl #[.int .u64 a0] rfl ga ?_; (with_reducible refine (dyad_Of.calls k a0 t639 t640 t643 t644 _ ?side1 A5.out).mono ?_); (case side1 => first | exact hT | exact TabW.drewN hT _ | exact TabW.drew hT | exact TabW.below hT bel); rintro e w9 ⟨v641, rfl, ho0, hb⟩; refine ⟨_, rfl, ?_⟩; refine ax2 (Kd.V_lower (Kd.V_mono (ok' := fun k_ => True) ho0 (fun k_ hk_ => trivial)) (below_size bel)) (below_step bel hb) ?_; clear HB; intro HO642 HB; (try clear hb); (try clear ho0)) | ((with_reducible refine gate_dst (N := 5) rfl ?_); refine gbox (N := 5) (cs := #[.bool false, .slice none 0 0, .int .i64 0]) (t := 26) ?_; intro gb645 hg w10 hbox hb; refine ax5 (Kd.V_below (Kd.V_elderB (kv HO642) gb645 (Nat.le_of_eq hg.symm)) hb) (below_step bel hb) hbox ((ge hg : w.heap.size ≤ gb645)) ((ge hg : w.heap.size ≤ gb645)) ?_; clear HO642; clear HB; intro HO642 HB BK645 GW645 GE645; clear hb hbox hg; have hcz11_0 := bc BK645 0 rfl; have hcz11_1 := bc BK645 1 rfl; have hcz11_2 := bc BK645 2 rfl; have hfz11_0 := blk_frozen BK645.out 0; have hfz11_1 := blk_frozen BK645.out 1; have hfz11_2 := blk_frozen BK645.out 2; obtain ⟨Ao12, co12, eo12⟩ := Kd.V_slice HO642.out; subst eo12) | ((with_reducible refine gate_callee (f := 8) rfl ?_); refine goesL_ (some 26) rfl rfl Tryd.func8 (by kernel_rfl) rfl #[.int .u64 a1] rfl ga ?_; (with_reducible refine (dyad_Of.calls k a1 t646 t647 t650 t651 _ ?side1 A6.out).mono ?_); (case side1 => first | exact hT | exact TabW.drewN hT _ | exact TabW.drew hT | exact TabW.below hT bes); rintro e w13 ⟨v648, rfl, ho0, hb⟩; refine ⟨_, rfl, ?_⟩; refine ax4 (Kd.V_below (by (with_reducible repeat (first | apply Kd.V_alloc | apply Kd.V_drewN | apply Kd.V_drew)); exact (Kd.V_mono (Kd.V_far (p := ⟨gb645, 2, none⟩) (Kd.V_far (p := ⟨gb645, 1, none⟩) (Kd.V_far (p := ⟨gb645, 0, none⟩) (Kd.V_mono HO642.out (fun k_ hk => (⟨hk, hk.2⟩ : _ ∧ k_ ≠ gb645))) (fun _ hk => hk.2) (.bool t639)) (fun _ hk => hk.2) (.slice Ao12 t640.length co12)) (fun _ hk => hk.2) (.int .i64 t643)) (fun _ h_ => h_.1))) hb) (Kd.V_lower (Kd.V_mono (ok' := fun k_ => k_ ≠ gb645) ho0 (fun k_ hk_ => (Kd.freshB (g := gb645) (o := .cells #[.bool t639, .slice Ao12 t640.length co12, .int .i64 t643] 26 (0, 0)) (by (with_reducible repeat (first | refine blk_drewN ?_ _ | refine blk_drew ?_ | refine blk_alloc ?_ _)); refine blk_put (cs := #[.bool t639, .slice Ao12 t640.length co12, .int .i64 0]) ?_ 2 _ rfl; (with_reducible repeat (first | refine blk_drewN ?_ _ | refine blk_drew ?_ | refine blk_alloc ?_ _)); refine blk_put (cs := #[.bool t639, .slice none 0 0, .int .i64 0]) ?_ 1 _ rfl; (with_reducible repeat (first | refine blk_drewN ?_ _ | refine blk_drew ?_ | refine blk_alloc ?_ _)); refine blk_put (cs := #[.bool false, .slice none 0 0, .int .i64 0]) ?_ 0 _ rfl; (with_reducible repeat (first | refine blk_drewN ?_ _ | refine blk_drew ?_ | refine blk_alloc ?_ _)); exact BK645.out) k_ hk_))) (below_size bes)) (blk_below (g := gb645) (o := .cells #[.bool t639, .slice Ao12 t640.length co12, .int .i64 t643] 26 (0, 0)) (by (with_reducible repeat (first | refine blk_drewN ?_ _ | refine blk_drew ?_ | refine blk_alloc ?_ _)); refine blk_put (cs := #[.bool t639, .slice Ao12 t640.length co12, .int .i64 0]) ?_ 2 _ rfl; (with_reducible repeat (first | refine blk_drewN ?_ _ | refine blk_drew ?_ | refine blk_alloc ?_ _)); refine blk_put (cs := #[.bool t639, .slice none 0 0, .int .i64 0]) ?_ 1 _ rfl; (with_reducible repeat (first | refine blk_drewN ?_ _ | refine blk_drew ?_ | refine blk_alloc ?_ _)); refine blk_put (cs := #[.bool false, .slice none 0 0, .int .i64 0]) ?_ 0 _ rfl; (with_reducible repeat (first | refine blk_drewN ?_ _ | refine blk_drew ?_ | refine blk_alloc ?_ _)); exact BK645.out) hb) (below_step bes hb) ?_; clear HO642; clear BK645; clear HB; intro HO642 HO649 BK645 HB; (try clear hb); (try clear ho0)) | ((with_reducible refine gate_dst (N := 7) rfl ?_); refine gbox (N := 7) (cs := #[.bool false, .slice none 0 0, .int .i64 0]) (t := 26) ?_; intro gb652 hg w14 hbox hb; refine ax9 (Kd.V_below (Kd.V_elderB (kv HO642) gb652 (Nat.le_of_eq hg.symm)) hb) (Kd.V_below (Kd.V_elderB (kv HO649) gb652 (Nat.le_of_eq hg.symm)) hb) (bb BK645 hb) (below_step bes hb) hbox ((ge hg : w.heap.size ≤ gb652)) ((ge hg : w.heap.size ≤ gb652)) (nl hg BK645) (ng hg BK645) ?_; clear HO642; clear HO649; clear BK645; clear HB; intro HO642 HO649 BK645 HB BK652 GW652 GE652 NB645_652 NB652_645; clear hb hbox hg; have hnb15 := NB652_645.out; have hnc15 := NB645_652.out; have hcz16_0 := bc BK652 0 rfl; have hcz16_1 := bc BK652 1 rfl; have hcz16_2 := bc BK652 2 rfl; have hfz16_0 := blk_frozen BK652.out 0; have hfz16_1 := blk_frozen BK652.out 1; have hfz16_2 := blk_frozen BK652.out 2; obtain ⟨Ao17, co17, eo17⟩ := Kd.V_slice HO649.out; subst eo17))
  (try simp only [Act.put, sa0, sa1, sa2])
  go_cut [47] (fun v47 wc => ∃ (kq : Nat) (x47_6 : Bool), v47 = .bool x47_6 ∧ Aside0 (gimballaw07_DyadNears.j0 kq a0 a1 t644 t651 x47_6 t639 t640 t643 t646 t647 t650 = some r) ∧ Aside0 (kq ≤ k) ∧ Aside0 (Kd.V (Kd.int .u32) 56 wc w.heap.size (fun k_ => k_ ≠ gb645 ∧ k_ ≠ gb652) (.slice Ao12 t640.length co12) t640) ∧ Aside0 (Kd.V (Kd.int .u32) 56 wc w.heap.size (fun k_ => k_ ≠ gb645 ∧ k_ ≠ gb652) (.slice Ao17 t647.length co17) t647) ∧ Aside0 (wc.heap[gb645]? = some (.cells #[.bool t639, (.slice Ao12 t640.length co12), .int .i64 t643] 26 (0, 0))) ∧ Aside0 (wc.heap[gb652]? = some (.cells #[.bool t646, (.slice Ao17 t647.length co17), .int .i64 t650] 26 (0, 0))) ∧ Aside0 (Below w.heap.size w wc))
  case first =>
   have H := HC7.out
   clear HC7
   obtain ⟨t653, A180, H⟩ := Option.bind_eq_some_iff.mp H
   (try dsimp -simprocs only at H)
   have A18 := Aside0.mk A180
   clear A180
   by_cases c19 : (t644 != t653) = true
   ·
    rw [if_pos c19] at H
    have c19b0 : (t644 != t653) = true := c19
    (try (have c19b1 : decide (t644 = t653) = false := by simpa using c19))
    (try (have c19b2 : (t644 == t653) = false := by simpa using c19))
    (try (have c19b3 : ¬ (t644 = t653) := by simpa using c19))
    clear c19
    (first | rw [c19b0] | (simp only [i64_w, i32_w]; rw [c19b0]) | skip)
    have H' := Aside0.mk H
    clear H
    go_wp2_with (first | ((with_reducible refine gate_callee (f := 9) rfl ?_); refine goesL_ (some 31) rfl rfl Tryd.func9 (by kernel_rfl) rfl #[.int .u64 a0] rfl ga ?_; (with_reducible refine (word_Finite.calls a0 t653 _ A18.out).mono ?_); rintro e w' ⟨rfl, ⟨nd, rfl⟩⟩; refine ⟨_, rfl, ?_⟩))
    go_meet
    case rel => exact ⟨_, (true), (by first | rfl | (simp; done) | (simp [*]; done)), H', ⟨by first | omega | exact Nat.le_refl _⟩, ⟨by (with_reducible repeat (first | apply Kd.V_alloc | apply Kd.V_drewN | apply Kd.V_drew)); exact Kd.V_mono (Kd.V_far (p := ⟨gb652, 2, none⟩) (Kd.V_far (p := ⟨gb652, 1, none⟩) (Kd.V_far (p := ⟨gb652, 0, none⟩) (Kd.V_mono HO642.out (fun k_ hk => (⟨hk, hk.2⟩ : _ ∧ k_ ≠ gb652))) (fun _ hk => hk.2) (.bool t646)) (fun _ hk => hk.2) (.slice Ao17 t647.length co17)) (fun _ hk => hk.2) (.int .i64 t650)) (fun _ hk => ⟨hk.1.1.2, hk.1.2⟩)⟩, ⟨by (with_reducible repeat (first | apply Kd.V_alloc | apply Kd.V_drewN | apply Kd.V_drew)); exact Kd.V_mono (Kd.V_far (p := ⟨gb652, 2, none⟩) (Kd.V_far (p := ⟨gb652, 1, none⟩) (Kd.V_far (p := ⟨gb652, 0, none⟩) (Kd.V_mono HO649.out (fun k_ hk => (⟨hk, hk.2⟩ : _ ∧ k_ ≠ gb652))) (fun _ hk => hk.2) (.bool t646)) (fun _ hk => hk.2) (.slice Ao17 t647.length co17)) (fun _ hk => hk.2) (.int .i64 t650)) (fun _ hk => ⟨hk.1.1, hk.1.2⟩)⟩, ⟨by (with_reducible repeat (first | refine blk_drewN ?_ _ | refine blk_drew ?_ | refine blk_alloc ?_ _)); refine blk_far ?_ NB645_652.out _; (with_reducible repeat (first | refine blk_drewN ?_ _ | refine blk_drew ?_ | refine blk_alloc ?_ _)); refine blk_far ?_ NB645_652.out _; (with_reducible repeat (first | refine blk_drewN ?_ _ | refine blk_drew ?_ | refine blk_alloc ?_ _)); refine blk_far ?_ NB645_652.out _; (with_reducible repeat (first | refine blk_drewN ?_ _ | refine blk_drew ?_ | refine blk_alloc ?_ _)); exact BK645.out⟩, ⟨by (with_reducible repeat (first | refine blk_drewN ?_ _ | refine blk_drew ?_ | refine blk_alloc ?_ _)); refine blk_put (cs := #[.bool t646, .slice Ao17 t647.length co17, .int .i64 0]) ?_ 2 _ rfl; (with_reducible repeat (first | refine blk_drewN ?_ _ | refine blk_drew ?_ | refine blk_alloc ?_ _)); refine blk_put (cs := #[.bool t646, .slice none 0 0, .int .i64 0]) ?_ 1 _ rfl; (with_reducible repeat (first | refine blk_drewN ?_ _ | refine blk_drew ?_ | refine blk_alloc ?_ _)); refine blk_put (cs := #[.bool false, .slice none 0 0, .int .i64 0]) ?_ 0 _ rfl; (with_reducible repeat (first | refine blk_drewN ?_ _ | refine blk_drew ?_ | refine blk_alloc ?_ _)); exact BK652.out⟩, ⟨bes⟩⟩
   ·
    rw [if_neg c19] at H
    have c19b0 : (t644 != t653) = false := by simpa using c19
    (try (have c19b1 : decide (t644 = t653) = true := by simpa using c19))
    (try (have c19b2 : (t644 == t653) = true := by simpa using c19))
    clear c19
    (first | rw [c19b0] | (simp only [i64_w, i32_w]; rw [c19b0]) | skip)
    obtain ⟨t654, A200, H⟩ := Option.bind_eq_some_iff.mp H
    (try dsimp -simprocs only at H)
    have A20 := Aside0.mk A200
    clear A200
    by_cases c21 : (t651 != t654) = true
    ·
     rw [if_pos c21] at H
     have c21b0 : (t651 != t654) = true := c21
     (try (have c21b1 : decide (t651 = t654) = false := by simpa using c21))
     (try (have c21b2 : (t651 == t654) = false := by simpa using c21))
     (try (have c21b3 : ¬ (t651 = t654) := by simpa using c21))
     clear c21
     have H' := Aside0.mk H
     clear H
     go_wp2_with (first | ((with_reducible refine gate_callee (f := 9) rfl ?_); refine goesL_ (some 31) rfl rfl Tryd.func9 (by kernel_rfl) rfl #[.int .u64 a0] rfl ga ?_; (with_reducible refine (word_Finite.calls a0 t653 _ A18.out).mono ?_); rintro e w' ⟨rfl, ⟨nd, rfl⟩⟩; refine ⟨_, rfl, ?_⟩) | (go_at_call 9; (with_reducible refine (word_Finite.calls a1 t654 _ A20.out).mono ?_); rintro e w' ⟨rfl, ⟨nd, rfl⟩⟩))
     go_meet
     case rel => exact ⟨_, (true), (by first | rfl | (simp; done) | (simp [*]; done)), H', ⟨by first | omega | exact Nat.le_refl _⟩, ⟨by (with_reducible repeat (first | apply Kd.V_alloc | apply Kd.V_drewN | apply Kd.V_drew)); exact Kd.V_mono (Kd.V_far (p := ⟨gb652, 2, none⟩) (Kd.V_far (p := ⟨gb652, 1, none⟩) (Kd.V_far (p := ⟨gb652, 0, none⟩) (Kd.V_mono HO642.out (fun k_ hk => (⟨hk, hk.2⟩ : _ ∧ k_ ≠ gb652))) (fun _ hk => hk.2) (.bool t646)) (fun _ hk => hk.2) (.slice Ao17 t647.length co17)) (fun _ hk => hk.2) (.int .i64 t650)) (fun _ hk => ⟨hk.1.1.2, hk.1.2⟩)⟩, ⟨by (with_reducible repeat (first | apply Kd.V_alloc | apply Kd.V_drewN | apply Kd.V_drew)); exact Kd.V_mono (Kd.V_far (p := ⟨gb652, 2, none⟩) (Kd.V_far (p := ⟨gb652, 1, none⟩) (Kd.V_far (p := ⟨gb652, 0, none⟩) (Kd.V_mono HO649.out (fun k_ hk => (⟨hk, hk.2⟩ : _ ∧ k_ ≠ gb652))) (fun _ hk => hk.2) (.bool t646)) (fun _ hk => hk.2) (.slice Ao17 t647.length co17)) (fun _ hk => hk.2) (.int .i64 t650)) (fun _ hk => ⟨hk.1.1, hk.1.2⟩)⟩, ⟨by (with_reducible repeat (first | refine blk_drewN ?_ _ | refine blk_drew ?_ | refine blk_alloc ?_ _)); refine blk_far ?_ NB645_652.out _; (with_reducible repeat (first | refine blk_drewN ?_ _ | refine blk_drew ?_ | refine blk_alloc ?_ _)); refine blk_far ?_ NB645_652.out _; (with_reducible repeat (first | refine blk_drewN ?_ _ | refine blk_drew ?_ | refine blk_alloc ?_ _)); refine blk_far ?_ NB645_652.out _; (with_reducible repeat (first | refine blk_drewN ?_ _ | refine blk_drew ?_ | refine blk_alloc ?_ _)); exact BK645.out⟩, ⟨by (with_reducible repeat (first | refine blk_drewN ?_ _ | refine blk_drew ?_ | refine blk_alloc ?_ _)); refine blk_put (cs := #[.bool t646, .slice Ao17 t647.length co17, .int .i64 0]) ?_ 2 _ rfl; (with_reducible repeat (first | refine blk_drewN ?_ _ | refine blk_drew ?_ | refine blk_alloc ?_ _)); refine blk_put (cs := #[.bool t646, .slice none 0 0, .int .i64 0]) ?_ 1 _ rfl; (with_reducible repeat (first | refine blk_drewN ?_ _ | refine blk_drew ?_ | refine blk_alloc ?_ _)); refine blk_put (cs := #[.bool false, .slice none 0 0, .int .i64 0]) ?_ 0 _ rfl; (with_reducible repeat (first | refine blk_drewN ?_ _ | refine blk_drew ?_ | refine blk_alloc ?_ _)); exact BK652.out⟩, ⟨bes⟩⟩
    ·
     rw [if_neg c21] at H
     have c21b0 : (t651 != t654) = false := by simpa using c21
     (try (have c21b1 : decide (t651 = t654) = true := by simpa using c21))
     (try (have c21b2 : (t651 == t654) = true := by simpa using c21))
     clear c21
     by_cases c22 : t644 = true
     ·
      subst c22
      rw [if_pos rfl] at H
      have H' := Aside0.mk H
      clear H
      go_wp2_with (first | ((with_reducible refine gate_callee (f := 9) rfl ?_); refine goesL_ (some 31) rfl rfl Tryd.func9 (by kernel_rfl) rfl #[.int .u64 a0] rfl ga ?_; (with_reducible refine (word_Finite.calls a0 t653 _ A18.out).mono ?_); rintro e w' ⟨rfl, ⟨nd, rfl⟩⟩; refine ⟨_, rfl, ?_⟩) | (go_at_call 9; (with_reducible refine (word_Finite.calls a1 t654 _ A20.out).mono ?_); rintro e w' ⟨rfl, ⟨nd, rfl⟩⟩))
      go_meet
      case rel => exact ⟨_, (false), (by first | rfl | (simp; done) | (simp [*]; done)), H', ⟨by first | omega | exact Nat.le_refl _⟩, ⟨by (with_reducible repeat (first | apply Kd.V_alloc | apply Kd.V_drewN | apply Kd.V_drew)); exact Kd.V_mono (Kd.V_far (p := ⟨gb652, 2, none⟩) (Kd.V_far (p := ⟨gb652, 1, none⟩) (Kd.V_far (p := ⟨gb652, 0, none⟩) (Kd.V_mono HO642.out (fun k_ hk => (⟨hk, hk.2⟩ : _ ∧ k_ ≠ gb652))) (fun _ hk => hk.2) (.bool t646)) (fun _ hk => hk.2) (.slice Ao17 t647.length co17)) (fun _ hk => hk.2) (.int .i64 t650)) (fun _ hk => ⟨hk.1.1.2, hk.1.2⟩)⟩, ⟨by (with_reducible repeat (first | apply Kd.V_alloc | apply Kd.V_drewN | apply Kd.V_drew)); exact Kd.V_mono (Kd.V_far (p := ⟨gb652, 2, none⟩) (Kd.V_far (p := ⟨gb652, 1, none⟩) (Kd.V_far (p := ⟨gb652, 0, none⟩) (Kd.V_mono HO649.out (fun k_ hk => (⟨hk, hk.2⟩ : _ ∧ k_ ≠ gb652))) (fun _ hk => hk.2) (.bool t646)) (fun _ hk => hk.2) (.slice Ao17 t647.length co17)) (fun _ hk => hk.2) (.int .i64 t650)) (fun _ hk => ⟨hk.1.1, hk.1.2⟩)⟩, ⟨by (with_reducible repeat (first | refine blk_drewN ?_ _ | refine blk_drew ?_ | refine blk_alloc ?_ _)); refine blk_far ?_ NB645_652.out _; (with_reducible repeat (first | refine blk_drewN ?_ _ | refine blk_drew ?_ | refine blk_alloc ?_ _)); refine blk_far ?_ NB645_652.out _; (with_reducible repeat (first | refine blk_drewN ?_ _ | refine blk_drew ?_ | refine blk_alloc ?_ _)); refine blk_far ?_ NB645_652.out _; (with_reducible repeat (first | refine blk_drewN ?_ _ | refine blk_drew ?_ | refine blk_alloc ?_ _)); exact BK645.out⟩, ⟨by (with_reducible repeat (first | refine blk_drewN ?_ _ | refine blk_drew ?_ | refine blk_alloc ?_ _)); refine blk_put (cs := #[.bool t646, .slice Ao17 t647.length co17, .int .i64 0]) ?_ 2 _ rfl; (with_reducible repeat (first | refine blk_drewN ?_ _ | refine blk_drew ?_ | refine blk_alloc ?_ _)); refine blk_put (cs := #[.bool t646, .slice none 0 0, .int .i64 0]) ?_ 1 _ rfl; (with_reducible repeat (first | refine blk_drewN ?_ _ | refine blk_drew ?_ | refine blk_alloc ?_ _)); refine blk_put (cs := #[.bool false, .slice none 0 0, .int .i64 0]) ?_ 0 _ rfl; (with_reducible repeat (first | refine blk_drewN ?_ _ | refine blk_drew ?_ | refine blk_alloc ?_ _)); exact BK652.out⟩, ⟨bes⟩⟩
     ·
      replace c22 := Bool.eq_false_iff.mpr c22
      subst c22
      rw [if_neg (show ¬ (false = true) by decide)] at H
      obtain ⟨t655, A230, H⟩ := Option.bind_eq_some_iff.mp H
      (try dsimp -simprocs only at H)
      have A23 := Aside0.mk A230
      clear A230
      have H' := Aside0.mk H
      clear H
      go_wp2_with (first | ((with_reducible refine gate_callee (f := 9) rfl ?_); refine goesL_ (some 31) rfl rfl Tryd.func9 (by kernel_rfl) rfl #[.int .u64 a0] rfl ga ?_; (with_reducible refine (word_Finite.calls a0 t653 _ A18.out).mono ?_); rintro e w' ⟨rfl, ⟨nd, rfl⟩⟩; refine ⟨_, rfl, ?_⟩) | (go_at_call 9; (with_reducible refine (word_Finite.calls a1 t654 _ A20.out).mono ?_); rintro e w' ⟨rfl, ⟨nd, rfl⟩⟩; have hnb24 := NB645_652.out; have hnc24 := NB652_645.out; have hcz25_0 := bc BK645 0 rfl; have hcz25_1 := bc BK645 1 rfl; have hcz25_2 := bc BK645 2 rfl; have hfz25_0 := blk_frozen BK645.out 0; have hfz25_1 := blk_frozen BK645.out 1; have hfz25_2 := blk_frozen BK645.out 2) | (go_at_call 10; (with_reducible refine (dyad_Num_Sign.calls t639 _ _ t640 t643 t655 _ ?side1 ?side2 A23.out).mono ?_); (case side1 => refine (Kd.V_reads' (e := 56) (base := w.heap.size) (ok := fun k_ => ((True ∧ k_ ≠ gb645) ∧ k_ ≠ gb652)) (n := t640.length) (c := co12) ?_).2.2; exact (by (with_reducible repeat (first | apply Kd.V_alloc | apply Kd.V_drewN | apply Kd.V_drew)); exact (Kd.V_mono (Kd.V_far (p := ⟨gb652, 2, none⟩) (Kd.V_far (p := ⟨gb652, 1, none⟩) (Kd.V_far (p := ⟨gb652, 0, none⟩) (Kd.V_mono HO642.out (fun k_ hk => (⟨hk, hk.2⟩ : _ ∧ k_ ≠ gb652))) (fun _ hk => hk.2) (.bool t646)) (fun _ hk => hk.2) (.slice Ao17 t647.length co17)) (fun _ hk => hk.2) (.int .i64 t650)) (fun _ h_ => h_.1)))); (case side2 => exact (Kd.V_reads' HO642.out).2.1); rintro e w26 ⟨rfl, hb⟩; refine ax5 (Kd.V_below (by (with_reducible repeat (first | apply Kd.V_alloc | apply Kd.V_drewN | apply Kd.V_drew)); exact (Kd.V_mono (Kd.V_far (p := ⟨gb652, 2, none⟩) (Kd.V_far (p := ⟨gb652, 1, none⟩) (Kd.V_far (p := ⟨gb652, 0, none⟩) (Kd.V_mono HO642.out (fun k_ hk => (⟨hk, hk.2⟩ : _ ∧ k_ ≠ gb652))) (fun _ hk => hk.2) (.bool t646)) (fun _ hk => hk.2) (.slice Ao17 t647.length co17)) (fun _ hk => hk.2) (.int .i64 t650)) (fun _ h_ => h_.1))) hb) (Kd.V_below (by (with_reducible repeat (first | apply Kd.V_alloc | apply Kd.V_drewN | apply Kd.V_drew)); exact (Kd.V_mono (Kd.V_far (p := ⟨gb652, 2, none⟩) (Kd.V_far (p := ⟨gb652, 1, none⟩) (Kd.V_far (p := ⟨gb652, 0, none⟩) (Kd.V_mono HO649.out (fun k_ hk => (⟨hk, hk.2⟩ : _ ∧ k_ ≠ gb652))) (fun _ hk => hk.2) (.bool t646)) (fun _ hk => hk.2) (.slice Ao17 t647.length co17)) (fun _ hk => hk.2) (.int .i64 t650)) (fun _ h_ => h_.1))) hb) (blk_below (g := gb645) (o := .cells #[.bool t639, .slice Ao12 t640.length co12, .int .i64 t643] 26 (0, 0)) (by (with_reducible repeat (first | refine blk_drewN ?_ _ | refine blk_drew ?_ | refine blk_alloc ?_ _)); refine blk_far ?_ NB645_652.out _; (with_reducible repeat (first | refine blk_drewN ?_ _ | refine blk_drew ?_ | refine blk_alloc ?_ _)); refine blk_far ?_ NB645_652.out _; (with_reducible repeat (first | refine blk_drewN ?_ _ | refine blk_drew ?_ | refine blk_alloc ?_ _)); refine blk_far ?_ NB645_652.out _; (with_reducible repeat (first | refine blk_drewN ?_ _ | refine blk_drew ?_ | refine blk_alloc ?_ _)); exact BK645.out) hb) (blk_below (g := gb652) (o := .cells #[.bool t646, .slice Ao17 t647.length co17, .int .i64 t650] 26 (0, 0)) (by (with_reducible repeat (first | refine blk_drewN ?_ _ | refine blk_drew ?_ | refine blk_alloc ?_ _)); refine blk_put (cs := #[.bool t646, .slice Ao17 t647.length co17, .int .i64 0]) ?_ 2 _ rfl; (with_reducible repeat (first | refine blk_drewN ?_ _ | refine blk_drew ?_ | refine blk_alloc ?_ _)); refine blk_put (cs := #[.bool t646, .slice none 0 0, .int .i64 0]) ?_ 1 _ rfl; (with_reducible repeat (first | refine blk_drewN ?_ _ | refine blk_drew ?_ | refine blk_alloc ?_ _)); refine blk_put (cs := #[.bool false, .slice none 0 0, .int .i64 0]) ?_ 0 _ rfl; (with_reducible repeat (first | refine blk_drewN ?_ _ | refine blk_drew ?_ | refine blk_alloc ?_ _)); exact BK652.out) hb) (below_step bes hb) ?_; clear HO642; clear HO649; clear BK645; clear BK652; clear HB; intro HO642 HO649 BK645 BK652 HB; (try clear hb)))
      go_meet
      case rel => exact ⟨_, ((t655 != 0)), (by first | rfl | (simp; done) | (simp [*]; done)), H', ⟨by first | omega | exact Nat.le_refl _⟩, ⟨by (with_reducible repeat (first | apply Kd.V_alloc | apply Kd.V_drewN | apply Kd.V_drew)); exact Kd.V_mono HO642.out (fun _ hk => ⟨hk.1.2, hk.2⟩)⟩, ⟨kv HO649⟩, ⟨kb BK645⟩, ⟨kb BK652⟩, ⟨bes⟩⟩
  case rest =>
   clear HC7
   try clear c1
   try clear c2
   try clear p2
   try clear c3
   try clear c4
   try clear c7
   try clear c8
   try clear c9
   try clear c15
   try clear c19
   try clear c19b0
   try clear c19b1
   try clear c19b2
   try clear c21
   try clear c21b0
   try clear c21b1
   try clear c21b2
   try clear c22
   try clear c24
   try clear hcz11_0
   try clear hcz11_1
   try clear hcz11_2
   try clear hcz16_0
   try clear hcz16_1
   try clear hcz16_2
   try clear hcz25_0
   try clear hcz25_1
   try clear hcz25_2
   try clear hfz11_0
   try clear hfz11_1
   try clear hfz11_2
   try clear hfz16_0
   try clear hfz16_1
   try clear hfz16_2
   try clear hfz25_0
   try clear hfz25_1
   try clear hfz25_2
   obtain ⟨kq, x47_6, rfl, HA, HJ6, HO_646001, HO_653001, BK645, BK652, HB⟩ := hcut
   cases kq with
   | zero => exact absurd HA.out (by simp [gimballaw07_DyadNears.j0])
   | succ kj6 =>
    have H := HA.out
    clear HA
    simp only [gimballaw07_DyadNears.j0] at H
    by_cases c27 : x47_6 = true
    ·
     subst c27
     rw [if_pos rfl] at H
     obtain rfl := Option.some.inj H
     go_wp2
     go_ret
     exact ⟨er, bes⟩
    ·
     replace c27 := Bool.eq_false_iff.mpr c27
     subst c27
     rw [if_neg (show ¬ (false = true) by decide)] at H
     have HC28 := Aside0.mk H
     clear H
     go_upto_region 7 with (fail)
     go_cut [53] (fun v53 wc => ∃ (kq : Nat) (x53_27 : Bool), v53 = .bool x53_27 ∧ Aside0 (gimballaw07_DyadNears.j1 kq a0 a1 x53_27 t639 t640 t643 t646 t647 t650 = some r) ∧ Aside0 (kq ≤ kj6) ∧ Aside0 (Kd.V (Kd.int .u32) 56 wc w.heap.size (fun k_ => k_ ≠ gb645 ∧ k_ ≠ gb652) (.slice Ao12 t640.length co12) t640) ∧ Aside0 (Kd.V (Kd.int .u32) 56 wc w.heap.size (fun k_ => k_ ≠ gb645 ∧ k_ ≠ gb652) (.slice Ao17 t647.length co17) t647) ∧ Aside0 (wc.heap[gb645]? = some (.cells #[.bool t639, (.slice Ao12 t640.length co12), .int .i64 t643] 26 (0, 0))) ∧ Aside0 (wc.heap[gb652]? = some (.cells #[.bool t646, (.slice Ao17 t647.length co17), .int .i64 t650] 26 (0, 0))) ∧ Aside0 (Below w.heap.size w wc))
     case first =>
      have H := HC28.out
      clear HC28
      by_cases c29 : t644 = true
      ·
       subst c29
       rw [if_pos rfl] at H
       have H' := Aside0.mk H
       clear H
       go_wp2
       go_meet
       case rel => exact ⟨_, (!t651), (by first | rfl | (simp; done) | (simp [*]; done)), H', ⟨by have := HJ6.out; first | omega | exact Nat.le_refl _⟩, ⟨kv HO_646001⟩, ⟨kv HO_653001⟩, ⟨kb BK645⟩, ⟨kb BK652⟩, ⟨bes⟩⟩
      ·
       replace c29 := Bool.eq_false_iff.mpr c29
       subst c29
       rw [if_neg (show ¬ (false = true) by decide)] at H
       have H' := Aside0.mk H
       clear H
       go_wp2
       go_meet
       case rel => exact ⟨_, (true), (by first | rfl | (simp; done) | (simp [*]; done)), H', ⟨by have := HJ6.out; first | omega | exact Nat.le_refl _⟩, ⟨kv HO_646001⟩, ⟨kv HO_653001⟩, ⟨kb BK645⟩, ⟨kb BK652⟩, ⟨bes⟩⟩
     case rest =>
      clear HC28
      try clear c1
      try clear c2
      try clear p2
      try clear c3
      try clear c4
      try clear c7
      try clear c8
      try clear c9
      try clear c15
      try clear c19
      try clear c19b0
      try clear c19b1
      try clear c19b2
      try clear c21
      try clear c21b0
      try clear c21b1
      try clear c21b2
      try clear c22
      try clear c24
      try clear c27
      try clear c29
      try clear hcz11_0
      try clear hcz11_1
      try clear hcz11_2
      try clear hcz16_0
      try clear hcz16_1
      try clear hcz16_2
      try clear hcz25_0
      try clear hcz25_1
      try clear hcz25_2
      try clear hfz11_0
      try clear hfz11_1
      try clear hfz11_2
      try clear hfz16_0
      try clear hfz16_1
      try clear hfz16_2
      try clear hfz25_0
      try clear hfz25_1
      try clear hfz25_2
      try clear p2
      obtain ⟨kq, x53_27, rfl, HA, HJ27, HO_646001, HO_653001, BK645, BK652, HB⟩ := hcut
      cases kq with
      | zero => exact absurd HA.out (by simp [gimballaw07_DyadNears.j1])
      | succ kj27 =>
       have H := HA.out
       clear HA
       simp only [gimballaw07_DyadNears.j1] at H
       by_cases c30 : x53_27 = true
       ·
        subst c30
        rw [if_pos rfl] at H
        obtain rfl := Option.some.inj H
        go_wp2
        go_ret
        exact ⟨er, bes⟩
       ·
        replace c30 := Bool.eq_false_iff.mpr c30
        subst c30
        rw [if_neg (show ¬ (false = true) by decide)] at H
        obtain ⟨⟨t656, t657, t660⟩, A310, H⟩ := Option.bind_eq_some_iff.mp H
        (try dsimp -simprocs only at H)
        have A31 := Aside0.mk A310
        clear A310
        obtain ⟨⟨t661, t662⟩, A320, H⟩ := Option.bind_eq_some_iff.mp H
        (try dsimp -simprocs only at H)
        have A32 := Aside0.mk A320
        clear A320
        obtain ⟨⟨t663, t664, t667⟩, A330, H⟩ := Option.bind_eq_some_iff.mp H
        (try dsimp -simprocs only at H)
        have A33 := Aside0.mk A330
        clear A330
        obtain ⟨⟨t668, t669⟩, A340, H⟩ := Option.bind_eq_some_iff.mp H
        (try dsimp -simprocs only at H)
        have A34 := Aside0.mk A340
        clear A340
        obtain ⟨⟨t670, t671⟩, A350, H⟩ := Option.bind_eq_some_iff.mp H
        (try dsimp -simprocs only at H)
        have A35 := Aside0.mk A350
        clear A350
        obtain ⟨⟨t672, t673⟩, A360, H⟩ := Option.bind_eq_some_iff.mp H
        (try dsimp -simprocs only at H)
        have A36 := Aside0.mk A360
        clear A360
        have HC37 := Aside0.mk H
        clear H
        have hnb38 := NB645_652.out
        have hnc38 := NB652_645.out
        have hcz39_0 := bc BK645 0 rfl
        have hcz39_1 := bc BK645 1 rfl
        have hcz39_2 := bc BK645 2 rfl
        have hfz39_0 := blk_frozen BK645.out 0
        have hfz39_1 := blk_frozen BK645.out 1
        have hfz39_2 := blk_frozen BK645.out 2
        have hcz40_0 := bc BK652 0 rfl
        have hcz40_1 := bc BK652 1 rfl
        have hcz40_2 := bc BK652 2 rfl
        have hfz40_0 := blk_frozen BK652.out 0
        have hfz40_1 := blk_frozen BK652.out 1
        have hfz40_2 := blk_frozen BK652.out 2
        go_upto_if 81 with (first | ((with_reducible refine gate_callee (f := 11) rfl ?_); refine goesL_ (some 57) rfl rfl Tryd.func11 (by kernel_rfl) rfl #[.agg #[.bool t639, .slice Ao12 t640.length co12, .int .i64 t643], .agg #[.bool t646, .slice Ao17 t647.length co17, .int .i64 t650]] rfl ga ?_; (with_reducible refine (dyad_Num_Add.calls kj27 t639 (fun k_ => (k_ ≠ gb645 ∧ k_ ≠ gb652)) _ _ t640 t643 t646 (fun k_ => (k_ ≠ gb645 ∧ k_ ≠ gb652)) _ _ t647 t650 t656 t657 t660 _ ?side1 ?side2 ?side3 A31.out).mono ?_); (case side1 => exact HO_646001.out); (case side2 => exact HO_653001.out); (case side3 => first | exact hT | exact TabW.drewN hT _ | exact TabW.drew hT | exact TabW.below hT bes); rintro e w41 ⟨v658, rfl, ho0, hb⟩; refine ⟨_, rfl, ?_⟩; refine ax6 (Kd.V_below (kv HO_646001) hb) (Kd.V_below (kv HO_653001) hb) (Kd.V_lower (Kd.V_mono (ok' := fun k_ => k_ ≠ gb645 ∧ k_ ≠ gb652) ho0 (fun k_ hk_ => ⟨Or.elim hk_ (fun hs_ => Or.elim hs_ (fun hs_ => hs_.1) (fun hs_ => hs_.1)) (fun hn_ => (fb BK645 k_ hn_)), Or.elim hk_ (fun hs_ => Or.elim hs_ (fun hs_ => hs_.2) (fun hs_ => hs_.2)) (fun hn_ => (fb BK652 k_ hn_))⟩)) (below_size bes)) (bb BK645 hb) (bb BK652 hb) (below_step bes hb) ?_; clear HO_646001; clear HO_653001; clear BK645; clear BK652; clear HB; intro HO_646001 HO_653001 HO659 BK645 BK652 HB; (try clear hb); (try clear ho0); obtain ⟨Ao42, co42, eo42⟩ := Kd.V_slice HO659.out; subst eo42) | ((with_reducible refine gate_callee (f := 12) rfl ?_); refine goesL_ (some 58) rfl rfl Tryd.func12 (by kernel_rfl) rfl #[.agg #[.bool t656, .slice Ao42 t657.length co42, .int .i64 t660]] rfl ga ?_; (with_reducible refine (dyad_Num_Near.calls kj27 t656 _ _ t657 t660 t661 t662 _ ?side1 ?side2 A32.out).mono ?_); (case side1 => exact kvs HO659); (case side2 => exact (Kd.V_reads' HO659.out).2.1); rintro e w43 ⟨rfl, hb⟩; refine ⟨_, rfl, ?_⟩; refine ax6 (Kd.V_below (kv HO_646001) hb) (Kd.V_below (kv HO_653001) hb) (Kd.V_below (kv HO659) hb) (bb BK645 hb) (bb BK652 hb) (below_step bes hb) ?_; clear HO_646001; clear HO_653001; clear HO659; clear BK645; clear BK652; clear HB; intro HO_646001 HO_653001 HO659 BK645 BK652 HB; (try clear hb); have hcz44_0 := bc BK645 0 rfl; have hcz44_1 := bc BK645 1 rfl; have hcz44_2 := bc BK645 2 rfl; have hfz44_0 := blk_frozen BK645.out 0; have hfz44_1 := blk_frozen BK645.out 1; have hfz44_2 := blk_frozen BK645.out 2; have hcz45_0 := bc BK652 0 rfl; have hcz45_1 := bc BK652 1 rfl; have hcz45_2 := bc BK652 2 rfl; have hfz45_0 := blk_frozen BK652.out 0; have hfz45_1 := blk_frozen BK652.out 1; have hfz45_2 := blk_frozen BK652.out 2) | ((with_reducible refine gate_callee (f := 13) rfl ?_); refine goesL_ (some 64) rfl rfl Tryd.func13 (by kernel_rfl) rfl #[.agg #[.bool t639, .slice Ao12 t640.length co12, .int .i64 t643], .agg #[.bool t646, .slice Ao17 t647.length co17, .int .i64 t650]] rfl ga ?_; (with_reducible refine (dyad_Num_Mul.calls kj27 t639 _ _ t640 t643 t646 _ _ t647 t650 t663 t664 t667 _ ?side1 ?side2 ?side3 ?side4 ?side5 A33.out).mono ?_); (case side1 => exact kvs HO_646001); (case side2 => exact (Kd.V_reads' HO_646001.out).2.1); (case side3 => exact kvs HO_653001); (case side4 => exact (Kd.V_reads' HO_653001.out).2.1); (case side5 => first | exact hT | exact TabW.drewN hT _ | exact TabW.drew hT | exact TabW.below hT bes); rintro e w46 ⟨v665, rfl, ho0, hb⟩; refine ⟨_, rfl, ?_⟩; refine ax7 (Kd.V_below (kv HO_646001) hb) (Kd.V_below (kv HO_653001) hb) (Kd.V_below (kv HO659) hb) (Kd.V_lower (Kd.V_mono (ok' := fun k_ => k_ ≠ gb645 ∧ k_ ≠ gb652) ho0 (fun k_ hk_ => ⟨(fb BK645 k_ hk_), (fb BK652 k_ hk_)⟩)) (below_size bes)) (bb BK645 hb) (bb BK652 hb) (below_step bes hb) ?_; clear HO_646001; clear HO_653001; clear HO659; clear BK645; clear BK652; clear HB; intro HO_646001 HO_653001 HO659 HO666 BK645 BK652 HB; (try clear hb); (try clear ho0); obtain ⟨Ao47, co47, eo47⟩ := Kd.V_slice HO666.out; subst eo47) | ((with_reducible refine gate_callee (f := 12) rfl ?_); refine goesL_ (some 65) rfl rfl Tryd.func12 (by kernel_rfl) rfl #[.agg #[.bool t663, .slice Ao47 t664.length co47, .int .i64 t667]] rfl ga ?_; (with_reducible refine (dyad_Num_Near.calls kj27 t663 _ _ t664 t667 t668 t669 _ ?side1 ?side2 A34.out).mono ?_); (case side1 => exact kvs HO666); (case side2 => exact (Kd.V_reads' HO666.out).2.1); rintro e w48 ⟨rfl, hb⟩; refine ⟨_, rfl, ?_⟩; refine ax7 (Kd.V_below (kv HO_646001) hb) (Kd.V_below (kv HO_653001) hb) (Kd.V_below (kv HO659) hb) (Kd.V_below (kv HO666) hb) (bb BK645 hb) (bb BK652 hb) (below_step bes hb) ?_; clear HO_646001; clear HO_653001; clear HO659; clear HO666; clear BK645; clear BK652; clear HB; intro HO_646001 HO_653001 HO659 HO666 BK645 BK652 HB; (try clear hb)) | ((with_reducible refine gate_callee (f := 14) rfl ?_); refine goesL_ (some 71) rfl rfl Tryd.func14 (by kernel_rfl) rfl #[.int .u64 a0, .int .u64 a1] rfl ga ?_; (with_reducible refine (gimbalref04_Add.calls kj27 a0 a1 t670 t671 _ A35.out).mono ?_); rintro e w49 ⟨rfl, hb⟩; refine ⟨_, rfl, ?_⟩; refine ax7 (Kd.V_below (kv HO_646001) hb) (Kd.V_below (kv HO_653001) hb) (Kd.V_below (kv HO659) hb) (Kd.V_below (kv HO666) hb) (bb BK645 hb) (bb BK652 hb) (below_step bes hb) ?_; clear HO_646001; clear HO_653001; clear HO659; clear HO666; clear BK645; clear BK652; clear HB; intro HO_646001 HO_653001 HO659 HO666 BK645 BK652 HB; (try clear hb)) | ((with_reducible refine gate_callee (f := 15) rfl ?_); refine goesL_ (some 77) rfl rfl Tryd.func15 (by kernel_rfl) rfl #[.int .u64 a0, .int .u64 a1] rfl ga ?_; (with_reducible refine (gimbalref04_Mul.calls kj27 a0 a1 t672 t673 _ A36.out).mono ?_); rintro e w50 ⟨rfl, hb⟩; refine ⟨_, rfl, ?_⟩; refine ax7 (Kd.V_below (kv HO_646001) hb) (Kd.V_below (kv HO_653001) hb) (Kd.V_below (kv HO659) hb) (Kd.V_below (kv HO666) hb) (bb BK645 hb) (bb BK652 hb) (below_step bes hb) ?_; clear HO_646001; clear HO_653001; clear HO659; clear HO666; clear BK645; clear BK652; clear HB; intro HO_646001 HO_653001 HO659 HO666 BK645 BK652 HB; (try clear hb)))
        (try simp only [Act.put, sa0, sa1, sa2])
        go_cut [13] (fun v13 wc => ∃ (kq : Nat) (x13_36 : Int), v13 = .int .u64 x13_36 ∧ Aside0 (gimballaw07_DyadNears.j2 kq t661 t662 t668 t669 x13_36 t671 t672 t673 = some r) ∧ Aside0 (kq ≤ kj27) ∧ Aside0 (Kd.V (Kd.int .u32) 56 wc w.heap.size (fun k_ => k_ ≠ gb645 ∧ k_ ≠ gb652) (.slice Ao12 t640.length co12) t640) ∧ Aside0 (Kd.V (Kd.int .u32) 56 wc w.heap.size (fun k_ => k_ ≠ gb645 ∧ k_ ≠ gb652) (.slice Ao17 t647.length co17) t647) ∧ Aside0 (wc.heap[gb645]? = some (.cells #[.bool t639, (.slice Ao12 t640.length co12), .int .i64 t643] 26 (0, 0))) ∧ Aside0 (wc.heap[gb652]? = some (.cells #[.bool t646, (.slice Ao17 t647.length co17), .int .i64 t650] 26 (0, 0))) ∧ Aside0 (Below w.heap.size w wc))
        case first =>
         have H := HC37.out
         clear HC37
         by_cases c51 : t670 = 9223372036854775808
         ·
          rw [if_pos c51] at H
          have c51b0 : (t670 == 9223372036854775808) = true := beq_iff_eq.mpr c51
          have c51b1 : (t670 != 9223372036854775808) = false := bne_eq_false_iff_eq.mpr c51
          clear c51
          (first | rw [c51b0] | (simp only [i64_w, i32_w]; rw [c51b0]) | skip)
          have H' := Aside0.mk H
          clear H
          go_wp2
          go_meet
          case rel => exact ⟨_, (0), (by first | rfl | (simp; done) | (simp [*]; done)), H', ⟨by have := HJ6.out; have := HJ27.out; first | omega | exact Nat.le_refl _⟩, ⟨kv HO_646001⟩, ⟨kv HO_653001⟩, ⟨kb BK645⟩, ⟨kb BK652⟩, ⟨bes⟩⟩
         ·
          rw [if_neg c51] at H
          have c51b0 : (t670 == 9223372036854775808) = false := beq_eq_false_iff_ne.mpr c51
          have c51b1 : (t670 != 9223372036854775808) = true := bne_iff_ne.mpr c51
          (first | rw [c51b0] | (simp only [i64_w, i32_w]; rw [c51b0]) | skip)
          have H' := Aside0.mk H
          clear H
          go_wp2
          go_meet
          case rel => exact ⟨_, (t670), (by first | rfl | (simp; done) | (simp [*]; done)), H', ⟨by have := HJ6.out; have := HJ27.out; first | omega | exact Nat.le_refl _⟩, ⟨kv HO_646001⟩, ⟨kv HO_653001⟩, ⟨kb BK645⟩, ⟨kb BK652⟩, ⟨bes⟩⟩
        case rest =>
         clear HC37
         try clear c1
         try clear c2
         try clear p2
         try clear c3
         try clear c4
         try clear c5
         try clear c7
         try clear c8
         try clear c9
         try clear c11
         try clear c12
         try clear c13
         try clear c14
         try clear c15
         try clear c19
         try clear c19b0
         try clear c19b1
         try clear c19b2
         try clear c21
         try clear c21b0
         try clear c21b1
         try clear c21b2
         try clear c22
         try clear c24
         try clear c27
         try clear c29
         try clear c30
         try clear c38
         try clear c51
         try clear c51b0
         try clear c51b1
         try clear hcz11_0
         try clear hcz11_1
         try clear hcz11_2
         try clear hcz16_0
         try clear hcz16_1
         try clear hcz16_2
         try clear hcz25_0
         try clear hcz25_1
         try clear hcz25_2
         try clear hcz39_0
         try clear hcz39_1
         try clear hcz39_2
         try clear hcz40_0
         try clear hcz40_1
         try clear hcz40_2
         try clear hcz44_0
         try clear hcz44_1
         try clear hcz44_2
         try clear hcz45_0
         try clear hcz45_1
         try clear hcz45_2
         try clear hfz11_0
         try clear hfz11_1
         try clear hfz11_2
         try clear hfz16_0
         try clear hfz16_1
         try clear hfz16_2
         try clear hfz25_0
         try clear hfz25_1
         try clear hfz25_2
         try clear hfz39_0
         try clear hfz39_1
         try clear hfz39_2
         try clear hfz40_0
         try clear hfz40_1
         try clear hfz40_2
         try clear hfz44_0
         try clear hfz44_1
         try clear hfz44_2
         try clear hfz45_0
         try clear hfz45_1
         try clear hfz45_2
         try clear p2
         obtain ⟨kq, x13_36, rfl, HA, HJ36, HO_646001, HO_653001, BK645, BK652, HB⟩ := hcut
         cases kq with
         | zero => exact absurd HA.out (by simp [gimballaw07_DyadNears.j2])
         | succ kj36 =>
          have H := HA.out
          clear HA
          simp only [gimballaw07_DyadNears.j2] at H
          have HC52 := Aside0.mk H
          clear H
          go_upto_region 15 with (fail)
          go_cut [87] (fun v87 wc => ∃ (kq : Nat) (x87_51 : Bool), v87 = .bool x87_51 ∧ Aside0 (gimballaw07_DyadNears.j3 kq t661 t662 t668 t669 x13_36 t671 t672 t673 x87_51 = some r) ∧ Aside0 (kq ≤ kj36) ∧ Aside0 (Kd.V (Kd.int .u32) 56 wc w.heap.size (fun k_ => k_ ≠ gb645 ∧ k_ ≠ gb652) (.slice Ao12 t640.length co12) t640) ∧ Aside0 (Kd.V (Kd.int .u32) 56 wc w.heap.size (fun k_ => k_ ≠ gb645 ∧ k_ ≠ gb652) (.slice Ao17 t647.length co17) t647) ∧ Aside0 (wc.heap[gb645]? = some (.cells #[.bool t639, (.slice Ao12 t640.length co12), .int .i64 t643] 26 (0, 0))) ∧ Aside0 (wc.heap[gb652]? = some (.cells #[.bool t646, (.slice Ao17 t647.length co17), .int .i64 t650] 26 (0, 0))) ∧ Aside0 (Below w.heap.size w wc))
          case first =>
           have H := HC52.out
           clear HC52
           by_cases c53 : t672 = 9223372036854775808
           ·
            rw [if_pos c53] at H
            have c53b0 : (t672 == 9223372036854775808) = true := beq_iff_eq.mpr c53
            have c53b1 : (t672 != 9223372036854775808) = false := bne_eq_false_iff_eq.mpr c53
            clear c53
            (first | rw [c53b0] | (simp only [i64_w, i32_w]; rw [c53b0]) | skip)
            have H' := Aside0.mk H
            clear H
            go_wp2
            go_meet
            case rel => exact ⟨_, ((t673 == 0)), (by first | rfl | (simp; done) | (simp [*]; done)), H', ⟨by have := HJ6.out; have := HJ27.out; have := HJ36.out; first | omega | exact Nat.le_refl _⟩, ⟨kv HO_646001⟩, ⟨kv HO_653001⟩, ⟨kb BK645⟩, ⟨kb BK652⟩, ⟨bes⟩⟩
           ·
            rw [if_neg c53] at H
            have c53b0 : (t672 == 9223372036854775808) = false := beq_eq_false_iff_ne.mpr c53
            have c53b1 : (t672 != 9223372036854775808) = true := bne_iff_ne.mpr c53
            (first | rw [c53b0] | (simp only [i64_w, i32_w]; rw [c53b0]) | skip)
            have H' := Aside0.mk H
            clear H
            go_wp2
            go_meet
            case rel => exact ⟨_, (false), (by first | rfl | (simp; done) | (simp [*]; done)), H', ⟨by have := HJ6.out; have := HJ27.out; have := HJ36.out; first | omega | exact Nat.le_refl _⟩, ⟨kv HO_646001⟩, ⟨kv HO_653001⟩, ⟨kb BK645⟩, ⟨kb BK652⟩, ⟨bes⟩⟩
          case rest =>
           clear HC52
           try clear c1
           try clear c2
           try clear p2
           try clear c3
           try clear c4
           try clear c5
           try clear c7
           try clear c8
           try clear c9
           try clear c11
           try clear c12
           try clear c13
           try clear c14
           try clear c15
           try clear c19
           try clear c19b0
           try clear c19b1
           try clear c19b2
           try clear c21
           try clear c21b0
           try clear c21b1
           try clear c21b2
           try clear c22
           try clear c24
           try clear c27
           try clear c29
           try clear c30
           try clear c38
           try clear c51
           try clear c51b0
           try clear c51b1
           try clear c53
           try clear c53b0
           try clear c53b1
           try clear hcz11_0
           try clear hcz11_1
           try clear hcz11_2
           try clear hcz16_0
           try clear hcz16_1
           try clear hcz16_2
           try clear hcz25_0
           try clear hcz25_1
           try clear hcz25_2
           try clear hcz39_0
           try clear hcz39_1
           try clear hcz39_2
           try clear hcz40_0
           try clear hcz40_1
           try clear hcz40_2
           try clear hcz44_0
           try clear hcz44_1
           try clear hcz44_2
           try clear hcz45_0
           try clear hcz45_1
           try clear hcz45_2
           try clear hfz11_0
           try clear hfz11_1
           try clear hfz11_2
           try clear hfz16_0
           try clear hfz16_1
           try clear hfz16_2
           try clear hfz25_0
           try clear hfz25_1
           try clear hfz25_2
           try clear hfz39_0
           try clear hfz39_1
           try clear hfz39_2
           try clear hfz40_0
           try clear hfz40_1
           try clear hfz40_2
           try clear hfz44_0
           try clear hfz44_1
           try clear hfz44_2
           try clear hfz45_0
           try clear hfz45_1
           try clear hfz45_2
           try clear p2
           obtain ⟨kq, x87_51, rfl, HA, HJ51, HO_646001, HO_653001, BK645, BK652, HB⟩ := hcut
           cases kq with
           | zero => exact absurd HA.out (by simp [gimballaw07_DyadNears.j3])
           | succ kj51 =>
            have H := HA.out
            clear HA
            simp only [gimballaw07_DyadNears.j3] at H
            by_cases c54 : x87_51 = true
            ·
             subst c54
             rw [if_pos rfl] at H
             by_cases c55 : t661 = x13_36
             ·
              rw [if_pos c55] at H
              have c55b0 : (t661 == x13_36) = true := beq_iff_eq.mpr c55
              have c55b1 : (t661 != x13_36) = false := bne_eq_false_iff_eq.mpr c55
              clear c55
              by_cases c56 : (wrap64 (t662)) = t671
              ·
               rw [if_pos c56] at H
               have c56b0 : ((wrap64 (t662)) == t671) = true := beq_iff_eq.mpr c56
               have c56b1 : ((wrap64 (t662)) != t671) = false := bne_eq_false_iff_eq.mpr c56
               clear c56
               by_cases c57 : t668 = 0
               ·
                rw [if_pos c57] at H
                have c57b0 : (t668 == 0) = true := beq_iff_eq.mpr c57
                have c57b1 : (t668 != 0) = false := bne_eq_false_iff_eq.mpr c57
                clear c57
                obtain rfl := Option.some.inj H
                go_wp2
                go_ret
                exact ⟨er, bes⟩
               ·
                rw [if_neg c57] at H
                have c57b0 : (t668 == 0) = false := beq_eq_false_iff_ne.mpr c57
                have c57b1 : (t668 != 0) = true := bne_iff_ne.mpr c57
                obtain rfl := Option.some.inj H
                go_wp2
                go_ret
                exact ⟨er, bes⟩
              ·
               rw [if_neg c56] at H
               have c56b0 : ((wrap64 (t662)) == t671) = false := beq_eq_false_iff_ne.mpr c56
               have c56b1 : ((wrap64 (t662)) != t671) = true := bne_iff_ne.mpr c56
               obtain rfl := Option.some.inj H
               go_wp2
               go_ret
               exact ⟨er, bes⟩
             ·
              rw [if_neg c55] at H
              have c55b0 : (t661 == x13_36) = false := beq_eq_false_iff_ne.mpr c55
              have c55b1 : (t661 != x13_36) = true := bne_iff_ne.mpr c55
              obtain rfl := Option.some.inj H
              go_wp2
              go_ret
              exact ⟨er, bes⟩
            ·
             replace c54 := Bool.eq_false_iff.mpr c54
             subst c54
             rw [if_neg (show ¬ (false = true) by decide)] at H
             by_cases c58 : t661 = x13_36
             ·
              rw [if_pos c58] at H
              have c58b0 : (t661 == x13_36) = true := beq_iff_eq.mpr c58
              have c58b1 : (t661 != x13_36) = false := bne_eq_false_iff_eq.mpr c58
              clear c58
              by_cases c59 : (wrap64 (t662)) = t671
              ·
               rw [if_pos c59] at H
               have c59b0 : ((wrap64 (t662)) == t671) = true := beq_iff_eq.mpr c59
               have c59b1 : ((wrap64 (t662)) != t671) = false := bne_eq_false_iff_eq.mpr c59
               clear c59
               by_cases c60 : t668 = t672
               ·
                rw [if_pos c60] at H
                have c60b0 : (t668 == t672) = true := beq_iff_eq.mpr c60
                have c60b1 : (t668 != t672) = false := bne_eq_false_iff_eq.mpr c60
                clear c60
                obtain rfl := Option.some.inj H
                go_wp2
                go_ret
                exact ⟨er, bes⟩
               ·
                rw [if_neg c60] at H
                have c60b0 : (t668 == t672) = false := beq_eq_false_iff_ne.mpr c60
                have c60b1 : (t668 != t672) = true := bne_iff_ne.mpr c60
                obtain rfl := Option.some.inj H
                go_wp2
                go_ret
                exact ⟨er, bes⟩
              ·
               rw [if_neg c59] at H
               have c59b0 : ((wrap64 (t662)) == t671) = false := beq_eq_false_iff_ne.mpr c59
               have c59b1 : ((wrap64 (t662)) != t671) = true := bne_iff_ne.mpr c59
               obtain rfl := Option.some.inj H
               go_wp2
               go_ret
               exact ⟨er, bes⟩
             ·
              rw [if_neg c58] at H
              have c58b0 : (t661 == x13_36) = false := beq_eq_false_iff_ne.mpr c58
              have c58b1 : (t661 != x13_36) = true := bne_iff_ne.mpr c58
              obtain rfl := Option.some.inj H
              go_wp2
              go_ret
              exact ⟨er, bes⟩
 ·
  replace c4 := Bool.eq_false_iff.mpr c4
  subst c4
  rw [if_neg (show ¬ (false = true) by decide)] at H
  obtain rfl := Option.some.inj H
  go_enter Tryd.func3, Tryd.ntmps3
  go_wp2_with (first | ((with_reducible refine gate_callee (f := 7) rfl ?_); refine goesL_ (some 17) rfl rfl Tryd.func7 (by kernel_rfl) rfl #[] rfl ga ?_; (with_reducible refine (gimballaw07_head.calls k  false _ ?side1 A3.out).mono ?_); (case side1 => first | exact hT | exact TabW.drewN hT _ | exact TabW.drew hT | exact TabW.below hT bel); rintro e w61 ⟨rfl, hb⟩; refine ⟨_, rfl, ?_⟩; refine ax1 (below_step bel hb) ?_; clear HB; intro HB; (try clear hb)))
  go_ret
  exact ⟨er, bel⟩

/-- THE ONE PURE STATEMENT of gimballaw07_DyadNears: yours. -/
def gimballaw07_DyadNears.Pure : Prop := ∀ (a0 : Int) (a1 : Int), (Lit.int .u64 a0).wf = true → (Lit.int .u64 a1).wf = true → ∃ k, gimballaw07_DyadNears.f k a0 a1 = some true
theorem gimballaw07_DyadNears.walk (P : gimballaw07_DyadNears.Pure) (a0 : Int) (a1 : Int) (w : World) (w0 : (Lit.int .u64 a0).wf = true) (w1 : (Lit.int .u64 a1).wf = true) (hT : TabW w) :
  Calls Tryd.prog 3 #[.int .u64 a0, .int .u64 a1] w fun e w' => e = .returned (.bool true) ∧ Below w.heap.size w w' := by
 obtain ⟨k, h⟩ := P a0 a1 w0 w1
 refine (gimballaw07_DyadNears.calls k a0 a1 true w hT h).mono ?_
 rintro e w' ⟨rfl, hd⟩
 exact ⟨rfl, hd⟩

end Go.Proofs.YtakegikedpcilaaDoor.F
