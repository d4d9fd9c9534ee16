-- Written by a program of this seat's session (mkprint), out of the translation.
import Derived.Test.YtakegikedpcilaaDoorShort
import Derived.Test.YtakegikedpcilaaDoorFx0
import Derived.Test.YtakegikedpcilaaDoorFx10
import Derived.Test.YtakegikedpcilaaDoorFx12
namespace Go.Proofs.YtakegikedpcilaaDoor.F
open Go.RowKit Go.Proofs.YtakegikedpcilaaDoorW.PrintWords Go.Proofs.YtakegikedpcilaaDoorW.PrintLast Go.Proofs.YtakegikedpcilaaDoorW.PrintMore
attribute [local go_sem] max2_int min2_int max_two min_two max_three min_three max_four min_four   -- for this text's walks alone
set_option linter.unusedVariables false
set_option linter.unusedSimpArgs false

/-! ### gimbalref03_Round: function 49 -/
mutual
def gimbalref03_Round.j0 : Nat → List Int → Int → Bool → Int → Option (Int × Int)
 | 0, _, _, _, _ => none
 | k + 1, x1, x2, x3, x9 => (gimbalref02_Up.f k x1 2).bind fun t512 => (if x3 = true then ((gimbalref02_Add.f k t512 (([1] : List Int))).bind fun t518 => (gimbalref03_Round.j1 k (wrap64 (x2 - 2)) x9 t518)) else (gimbalref03_Round.j1 k (wrap64 (x2 - 2)) x9 t512))
def gimbalref03_Round.j1 : Nat → Int → Int → List Int → Option (Int × Int)
 | 0, _, _, _ => none
 | k + 1, x2, x9, x10 => if (x10.length : Int) = 0 then (some (x9, 0)) else (if (wrap64 ((wrap64 (x2 + (x10.length : Int))) - 53)) < (-1074) then (gimbalref03_Round.j2 k x2 x9 x10 (-1074)) else (gimbalref03_Round.j2 k x2 x9 x10 (wrap64 ((wrap64 (x2 + (x10.length : Int))) - 53))))
def gimbalref03_Round.j2 : Nat → Int → Int → List Int → Int → Option (Int × Int)
 | 0, _, _, _, _ => none
 | k + 1, x2, x9, x10, x11 => if x11 > x2 then ((gimbalref02_Down.f k x10 (wrap64 (x11 - x2))).bind fun bt521 => ((gimbalref02_Up.f k bt521.1 (wrap64 (x11 - x2))).bind fun t525 => ((gimbalref02_Sub.f k x10 t525).bind fun t528 => ((gimbalref02_Up.f k t528 1).bind fun t531 => ((gimbalref02_Up.f k (([1] : List Int)) (wrap64 (x11 - x2))).bind fun t537 => ((gimbalref02_Cmp.f k t531 t537).bind fun t540 => (if (bt521.1.length : Int) > 0 then (if 0 < (bt521.1.length : Int) then (gimbalref03_Round.j3 k x9 x11 (decide ((wrap64 (x2 + (x10.length : Int))) < (-1021))) bt521.2 bt521.1 t540 ((rd bt521.1 0) == 1)) else (none)) else (gimbalref03_Round.j3 k x9 x11 (decide ((wrap64 (x2 + (x10.length : Int))) < (-1021))) bt521.2 bt521.1 t540 false)))))))) else ((gimbalref02_Up.f k x10 (wrap64 (x2 - x11))).bind fun t548 => (gimbalref03_Round.j5 k x9 x11 (decide ((wrap64 (x2 + (x10.length : Int))) < (-1021))) t548 false))
def gimbalref03_Round.j5 : Nat → Int → Int → Bool → List Int → Bool → Option (Int × Int)
 | 0, _, _, _, _, _ => none
 | k + 1, x9, x11, x12, x13, x14 => if x14 = true then (if x12 = true then (gimbalref03_Round.j6 k x9 x11 x13 3) else (gimbalref03_Round.j6 k x9 x11 x13 1)) else (gimbalref03_Round.j6 k x9 x11 x13 0)
def gimbalref03_Round.j6 : Nat → Int → Int → List Int → Int → Option (Int × Int)
 | 0, _, _, _, _ => none
 | k + 1, x9, x11, x13, x20 => if (x13.length : Int) = 54 then ((gimbalref02_Down.f k x13 1).bind fun bt551 => (gimbalref03_Round.j7 k x9 (wrap64 (x11 + 1)) bt551.1 x20)) else (gimbalref03_Round.j7 k x9 x11 x13 x20)
def gimbalref03_Round.j7 : Nat → Int → Int → List Int → Int → Option (Int × Int)
 | 0, _, _, _, _ => none
 | k + 1, x9, x11, x13, x20 => (gimbalref02_Num.f k x13).bind fun t555 => (if (x13.length : Int) < 53 then (some (IntKind.u64.wrap (x9 + t555), x20)) else (if (wrap64 (x11 + 1075)) ≥ 2047 then (some (IntKind.u64.wrap (x9 + 9218868437227405312), Go.bits .or .i64 (wrap64 ((wrap64 (Int.tdiv x20 2)) * 2)) 5)) else (some (IntKind.u64.wrap ((IntKind.u64.wrap ((IntKind.u64.wrap (x9 + (IntKind.u64.wrap ((IntKind.u64.wrap (wrap64 (x11 + 1075))) * 4503599627370496)))) + t555)) - 4503599627370496), x20))))
def gimbalref03_Round.j3 : Nat → Int → Int → Bool → Bool → List Int → Int → Bool → Option (Int × Int)
 | 0, _, _, _, _, _, _, _ => none
 | k + 1, x9, x11, x12, x14, x15, x18, x19 => if x18 > 0 then (gimbalref03_Round.j4 k x9 x11 x12 x14 x15 true) else (if x18 = 0 then (gimbalref03_Round.j4 k x9 x11 x12 x14 x15 x19) else (gimbalref03_Round.j4 k x9 x11 x12 x14 x15 false))
def gimbalref03_Round.j4 : Nat → Int → Int → Bool → Bool → List Int → Bool → Option (Int × Int)
 | 0, _, _, _, _, _, _ => none
 | k + 1, x9, x11, x12, x14, x15, x94 => if x94 = true then ((gimbalref02_Add.f k x15 (([1] : List Int))).bind fun t545 => (gimbalref03_Round.j5 k x9 x11 x12 t545 x14)) else (gimbalref03_Round.j5 k x9 x11 x12 x15 x14)
end
def gimbalref03_Round.f (k : Nat) (a0 : Bool) (l1 : List Int) (a2 : Int) (a3 : Bool) : Option (Int × Int) := if a0 = true then (gimbalref03_Round.j0 k l1 a2 a3 9223372036854775808) else (gimbalref03_Round.j0 k l1 a2 a3 0)
theorem gimbalref03_Round.mono_l : ∀ k, (∀ y0 y1 y2 y3, LeO (gimbalref03_Round.j0 k y0 y1 y2 y3) (gimbalref03_Round.j0 (k + 1) y0 y1 y2 y3)) ∧ (∀ y0 y1 y2, LeO (gimbalref03_Round.j1 k y0 y1 y2) (gimbalref03_Round.j1 (k + 1) y0 y1 y2)) ∧ (∀ y0 y1 y2 y3, LeO (gimbalref03_Round.j2 k y0 y1 y2 y3) (gimbalref03_Round.j2 (k + 1) y0 y1 y2 y3)) ∧ (∀ y0 y1 y2 y3 y4, LeO (gimbalref03_Round.j5 k y0 y1 y2 y3 y4) (gimbalref03_Round.j5 (k + 1) y0 y1 y2 y3 y4)) ∧ (∀ y0 y1 y2 y3, LeO (gimbalref03_Round.j6 k y0 y1 y2 y3) (gimbalref03_Round.j6 (k + 1) y0 y1 y2 y3)) ∧ (∀ y0 y1 y2 y3, LeO (gimbalref03_Round.j7 k y0 y1 y2 y3) (gimbalref03_Round.j7 (k + 1) y0 y1 y2 y3)) ∧ (∀ y0 y1 y2 y3 y4 y5 y6, LeO (gimbalref03_Round.j3 k y0 y1 y2 y3 y4 y5 y6) (gimbalref03_Round.j3 (k + 1) y0 y1 y2 y3 y4 y5 y6)) ∧ (∀ y0 y1 y2 y3 y4 y5, LeO (gimbalref03_Round.j4 k y0 y1 y2 y3 y4 y5) (gimbalref03_Round.j4 (k + 1) y0 y1 y2 y3 y4 y5))
 | 0 => ⟨fun _ _ _ _ r h => by simp [gimbalref03_Round.j0] at h, fun _ _ _ r h => by simp [gimbalref03_Round.j1] at h, fun _ _ _ _ r h => by simp [gimbalref03_Round.j2] at h, fun _ _ _ _ _ r h => by simp [gimbalref03_Round.j5] at h, fun _ _ _ _ r h => by simp [gimbalref03_Round.j6] at h, fun _ _ _ _ r h => by simp [gimbalref03_Round.j7] at h, fun _ _ _ _ _ _ _ r h => by simp [gimbalref03_Round.j3] at h, fun _ _ _ _ _ _ r h => by simp [gimbalref03_Round.j4] at h⟩
 | k + 1 => by
  obtain ⟨ih0, ih1, ih2, ih3, ih4, ih5, ih6, ih7⟩ := gimbalref03_Round.mono_l k
  refine ⟨?_, ?_, ?_, ?_, ?_, ?_, ?_, ?_⟩ <;> intros <;> (first | unfold gimbalref03_Round.j0 | unfold gimbalref03_Round.j1 | unfold gimbalref03_Round.j2 | unfold gimbalref03_Round.j5 | unfold gimbalref03_Round.j6 | unfold gimbalref03_Round.j7 | unfold gimbalref03_Round.j3 | unfold gimbalref03_Round.j4) <;>
   repeat' with_reducible first | apply ih0 | apply ih1 | apply ih2 | apply ih3 | apply ih4 | apply ih5 | apply ih6 | apply ih7 | apply gimbalref02_Add.mono | apply gimbalref02_Cmp.mono | apply gimbalref02_Down.mono | apply gimbalref02_Num.mono | apply gimbalref02_Sub.mono | apply gimbalref02_Up.mono | exact LeO.refl _ | exact LeO.none _ | refine LeO.ite ?_ ?_ | refine LeO.bind ?_ (fun _ => ?_)
theorem gimbalref03_Round.mono : ∀ a0 a1 a2 a3 k, LeO (gimbalref03_Round.f k a0 a1 a2 a3) (gimbalref03_Round.f (k + 1) a0 a1 a2 a3) := by
 intro a0 a1 a2 a3 k
 obtain ⟨ih0, ih1, ih2, ih3, ih4, ih5, ih6, ih7⟩ := gimbalref03_Round.mono_l k
 unfold gimbalref03_Round.f
 repeat' with_reducible first | apply ih0 | apply ih1 | apply ih2 | apply ih3 | apply ih4 | apply ih5 | apply ih6 | apply ih7 | apply gimbalref02_Add.mono | apply gimbalref02_Cmp.mono | apply gimbalref02_Down.mono | apply gimbalref02_Num.mono | apply gimbalref02_Sub.mono | apply gimbalref02_Up.mono | exact LeO.refl _ | exact LeO.none _ | refine LeO.ite ?_ ?_ | refine LeO.bind ?_ (fun _ => ?_)
set_option maxHeartbeats 8000000 in
set_option maxRecDepth 100000 in
theorem gimbalref03_Round.calls (k : Nat) (a0 : Bool) (A1 : Option Addr) (c1 : Nat) (l1 : List Int) (a2 : Int) (a3 : Bool) (r1 : Int) (r2 : Int) (w : World) (hr1 : Kd.C (Kd.int .i64) w A1 l1.length l1) (hc1 : l1.length ≤ c1) (h : gimbalref03_Round.f k a0 l1 a2 a3 = some (r1, r2)) :
  Calls Tryd.prog 49 #[.bool a0, .slice A1 l1.length c1, .int .i64 a2, .bool a3] w fun e w' => e = .returned (.agg #[.int .u64 r1, .int .i64 r2]) ∧ Below w.heap.size w w' := by
 have hu74 := Tryd.underlying74
 have HR1 := Aside0.mk hr1
 have HC1 := Aside0.mk hc1
 clear hr1 hc1
 have HB := Aside0.mk (Below.refl w.heap.size w)
 have H : (if a0 = true then (gimbalref03_Round.j0 k l1 a2 a3 9223372036854775808) else (gimbalref03_Round.j0 k l1 a2 a3 0)) = some (r1, r2) := h
 clear h
 have HC5 := Aside0.mk H
 clear H
 go_enter Tryd.func49, Tryd.ntmps49
 go_upto_if 23 with (first | ((with_reducible refine gate_dst (N := 8) rfl ?_); refine gbox (N := 8) (cs := #[.int .u64 0, .int .i64 0]) (t := 74) ?_; intro gb511 hg w6 hbox hb; refine ax4 (below_step bel hb) hbox ((ge hg : w.heap.size ≤ gb511)) ((ge hg : w.heap.size ≤ gb511)) ?_; clear HB; intro HB BK511 GW511 GE511; clear hb hbox hg))
 (try simp only [Act.put, sa0, sa1, sa2])
 go_cut [9] (fun v9 wc => ∃ (kq : Nat) (x9_4 : Int), v9 = .int .u64 x9_4 ∧ Aside0 (gimbalref03_Round.j0 kq l1 a2 a3 x9_4 = some (r1, r2)) ∧ Aside0 (kq ≤ k) ∧ Aside0 (wc.heap[gb511]? = some (.cells #[.int .u64 0, .int .i64 0] 74 (0, 0))) ∧ Aside0 (Below w.heap.size w wc))
 case first =>
  have H := HC5.out
  clear HC5
  by_cases c7 : a0 = true
  ·
   subst c7
   rw [if_pos rfl] at H
   have H' := Aside0.mk H
   clear H
   go_wp2
   go_meet
   case rel => exact ⟨_, (9223372036854775808), (by first | rfl | (simp; done) | (simp [*]; done)), H', ⟨by first | omega | exact Nat.le_refl _⟩, ⟨kb BK511⟩, ⟨bes⟩⟩
  ·
   replace c7 := Bool.eq_false_iff.mpr c7
   subst c7
   rw [if_neg (show ¬ (false = true) by decide)] at H
   have H' := Aside0.mk H
   clear H
   go_wp2
   go_meet
   case rel => exact ⟨_, (0), (by first | rfl | (simp; done) | (simp [*]; done)), H', ⟨by first | omega | exact Nat.le_refl _⟩, ⟨kb BK511⟩, ⟨bes⟩⟩
 case rest =>
  clear HC5
  try clear c1
  try clear p2
  try clear c4
  try clear c7
  obtain ⟨kq, x9_4, rfl, HA, HJ4, BK511, HB⟩ := hcut
  cases kq with
  | zero => exact absurd HA.out (by simp [gimbalref03_Round.j0])
  | succ kj4 =>
   have H := HA.out
   clear HA
   simp only [gimbalref03_Round.j0] at H
   obtain ⟨t512, A80, H⟩ := Option.bind_eq_some_iff.mp H
   (try dsimp -simprocs only at H)
   have A8 := Aside0.mk A80
   clear A80
   have HC9 := Aside0.mk H
   clear H
   go_upto_if 28 with (first | ((with_reducible refine gate_callee (f := 68) rfl ?_); refine goesL_ (some 25) rfl rfl Tryd.func68 (by kernel_rfl) rfl #[.slice A1 l1.length c1, .int .i64 2] rfl ga ?_; (with_reducible refine (gimbalref02_Up.calls kj4 _ _ l1 2 t512 _ ?side1 ?side2 A8.out).mono ?_); (case side1 => repeat (first | exact (Kd.C_below HR1.out HB.out) | (with_reducible refine Kd.C_alloc ?_ _) | (with_reducible refine Kd.C_drewN ?_ _) | (with_reducible refine Kd.C_drew ?_))); (case side2 => exact HC1.out); rintro e w10 ⟨v513, rfl, ho0, hb⟩; refine ⟨_, rfl, ?_⟩; refine ax3 (Kd.R_lower ho0 (below_size bes)) (bb BK511 hb) (below_step bes hb) ?_; clear BK511; clear HB; intro HO514 BK511 HB; (try clear hb); (try clear ho0)))
   (try simp only [Act.put, sa0, sa1, sa2])
   go_cut [10] (fun v10 wc => ∃ (kq : Nat) (x10_8 : List Int), Aside0 (gimbalref03_Round.j1 kq (wrap64 (a2 - 2)) x9_4 x10_8 = some (r1, r2)) ∧ Aside0 (kq ≤ kj4) ∧ Aside0 (Kd.R (Kd.int .i64) 3 wc w.heap.size (fun _ => True) v10 x10_8) ∧ Aside0 (wc.heap[gb511]? = some (.cells #[.int .u64 0, .int .i64 0] 74 (0, 0))) ∧ Aside0 (Below w.heap.size w wc))
   case first =>
    have H := HC9.out
    clear HC9
    by_cases c11 : a3 = true
    ·
     subst c11
     rw [if_pos rfl] at H
     obtain ⟨y515, hy515⟩ : ∃ y_ : List Int, y_ = (([1] : List Int)) := ⟨_, rfl⟩
     replace H : ((gimbalref02_Add.f kj4 t512 y515).bind fun t518 => (gimbalref03_Round.j1 kj4 (wrap64 (a2 - 2)) x9_4 t518)) = some (r1, r2) := by first | (rw [hy515]; with_reducible exact H) | (have H2_ := (Option.bind_some _ _).symm.trans H; rw [hy515]; with_reducible exact H2_) | (have H2_ := (Option.bind_some _ _).symm.trans H; with_reducible exact H2_) | with_reducible exact H | (rw [hy515]; exact H) | exact H
     have Ny515 := Aside0.mk hy515
     clear hy515
     obtain ⟨t518, A120, H⟩ := Option.bind_eq_some_iff.mp H
     (try dsimp -simprocs only at H)
     have A12 := Aside0.mk A120
     clear A120
     have H' := Aside0.mk H
     clear H
     go_wp2_with (first | ((with_reducible refine gate_dst (N := 30) rfl ?_); refine Kd.R_lit (Kd.int .i64) _ 3 ?hg (N := 30) ?hd (xs := ([1] : List Int)) (inner := [.int .i64 1]) (ok := fun _ => True) (okp := fun _ => True) ?hr ?hp (fun _ hk => hk) trivial (Below.refl _ _) (Nat.le_refl _) (by simp) ?_; (case hd => rfl); (case hg => rfl); (case hr => first | (go_simp; done) | (go_simp; rfl)); (case hp => exact (Reps.one (show Kd.M (Kd.int .i64) _ _ _ 1 [.int .i64 1] from rfl) (Reps.none _ _))); intro v516 w13 ho14 hb hg_ hnew_; clear hg_ hnew_; (first | rw [← Ny515.out] at ho14 | (simp only [Int.reduceToNat] at ho14; rw [← Ny515.out] at ho14)); refine ax4 (Kd.R_elder' (kr HO514) (Kd.R_base ho14) hb) (Kd.R_lower (Kd.R_new' ho14 (Kd.R_lt (kr HO514))) (below_size bes)) (bb BK511 hb) (below_step bes hb) ?_; clear HO514; clear BK511; clear HB; intro HO514 HO517 BK511 HB; clear hb ho14; obtain ⟨Ao15, co15, eo15⟩ := Kd.R_slice HO514.out; subst eo15; obtain ⟨Ao16, co16, eo16⟩ := Kd.R_slice HO517.out; subst eo16) | ((with_reducible refine gate_callee (f := 46) rfl ?_); refine goesL_ (some 31) rfl rfl Tryd.func46 (by kernel_rfl) rfl #[.slice Ao15 t512.length co15, .slice Ao16 y515.length co16] rfl ga ?_; (with_reducible refine (gimbalref02_Add.calls kj4 _ _ t512 _ _ y515 t518 _ ?side1 ?side2 ?side3 ?side4 A12.out).mono ?_); (case side1 => exact ks HO514); (case side2 => exact (Kd.R_reads' HO514.out).2.1); (case side3 => exact ks HO517); (case side4 => exact (Kd.R_reads' HO517.out).2.1); rintro e w17 ⟨v519, rfl, ho0, hb⟩; refine ⟨_, rfl, ?_⟩; refine ax5 (Kd.R_elder' (kr HO514) (Kd.R_base ho0) hb) (Kd.R_elder' (kr HO517) (Kd.R_base ho0) hb) (Kd.R_lower (Kd.R_new' (Kd.R_new' ho0 (Kd.R_lt (kr HO514))) (Kd.R_lt (kr HO517))) (below_size bes)) (bb BK511 hb) (below_step bes hb) ?_; clear HO514; clear HO517; clear BK511; clear HB; intro HO514 HO517 HO520 BK511 HB; (try clear hb); (try clear ho0)))
     go_meet
     case rel => exact ⟨_, (t518), H', ⟨by have := HJ4.out; first | omega | exact Nat.le_refl _⟩, ⟨by (with_reducible repeat (first | apply Kd.R_alloc | apply Kd.R_drewN | apply Kd.R_drew)); exact Kd.R_mono HO520.out (fun _ hk => trivial)⟩, ⟨kb BK511⟩, ⟨bes⟩⟩
    ·
     replace c11 := Bool.eq_false_iff.mpr c11
     subst c11
     rw [if_neg (show ¬ (false = true) by decide)] at H
     have H' := Aside0.mk H
     clear H
     go_wp2
     go_meet
     case rel => exact ⟨_, (t512), H', ⟨by have := HJ4.out; first | omega | exact Nat.le_refl _⟩, ⟨kr HO514⟩, ⟨kb BK511⟩, ⟨bes⟩⟩
   case rest =>
    clear HC9
    try clear c1
    try clear p2
    try clear c4
    try clear c6
    try clear p6
    try clear c7
    try clear c11
    try clear p2
    obtain ⟨kq, x10_8, HA, HJ8, HO_10, BK511, HB⟩ := hcut
    cases kq with
    | zero => exact absurd HA.out (by simp [gimbalref03_Round.j1])
    | succ kj8 =>
     have H := HA.out
     clear HA
     simp only [gimbalref03_Round.j1] at H
     by_cases c18 : (x10_8.length : Int) = 0
     ·
      rw [if_pos c18] at H
      have c18b0 : ((x10_8.length : Int) == 0) = true := beq_iff_eq.mpr c18
      have c18b1 : ((x10_8.length : Int) != 0) = false := bne_eq_false_iff_eq.mpr c18
      clear c18
      simp only [Option.some.injEq, Prod.mk.injEq] at H
      obtain ⟨rfl, rfl⟩ := H
      obtain ⟨Ao19, co19, eo19⟩ := Kd.R_slice HO_10.out
      subst eo19
      have hcz20_0 := bc BK511 0 rfl
      have hcz20_1 := bc BK511 1 rfl
      have hfz20_0 := blk_frozen BK511.out 0
      have hfz20_1 := blk_frozen BK511.out 1
      go_wp2
      refine bodyPost_ret (results_cell_row rfl _ _ gb511 74 #[.int .u64 x9_4, .int .i64 0] (0, 0) _ rfl (by (with_reducible repeat (first | refine blk_drewN ?_ _ | refine blk_drew ?_ | refine blk_alloc ?_ _)); refine blk_put (cs := #[.int .u64 x9_4, .int .i64 0]) ?_ 1 _ rfl; (with_reducible repeat (first | refine blk_drewN ?_ _ | refine blk_drew ?_ | refine blk_alloc ?_ _)); refine blk_put (cs := #[.int .u64 0, .int .i64 0]) ?_ 0 _ rfl; (with_reducible repeat (first | refine blk_drewN ?_ _ | refine blk_drew ?_ | refine blk_alloc ?_ _)); exact BK511.out) Tryd.underlying74 rfl (by kernel_rfl)) rfl ?_
      exact ⟨er, bes⟩
     ·
      rw [if_neg c18] at H
      have c18b0 : ((x10_8.length : Int) == 0) = false := beq_eq_false_iff_ne.mpr c18
      have c18b1 : ((x10_8.length : Int) != 0) = true := bne_iff_ne.mpr c18
      have c18b2 : ¬ (x10_8 = []) := fun h_ => c18 (by rw [h_]; rfl)
      have HC21 := Aside0.mk H
      clear H
      obtain ⟨Ao22, co22, eo22⟩ := Kd.R_slice HO_10.out
      subst eo22
      go_upto_if 43 with (fail)
      go_cut [11] (fun v11 wc => ∃ (kq : Nat) (x11_20 : Int), v11 = .int .i64 x11_20 ∧ Aside0 (gimbalref03_Round.j2 kq (wrap64 (a2 - 2)) x9_4 x10_8 x11_20 = some (r1, r2)) ∧ Aside0 (kq ≤ kj8) ∧ Aside0 (Kd.R (Kd.int .i64) 3 wc w.heap.size (fun _ => True) (.slice Ao22 x10_8.length co22) x10_8) ∧ Aside0 (wc.heap[gb511]? = some (.cells #[.int .u64 0, .int .i64 0] 74 (0, 0))) ∧ Aside0 (Below w.heap.size w wc))
      case first =>
       have H := HC21.out
       clear HC21
       by_cases c23 : (wrap64 ((wrap64 ((wrap64 (a2 - 2)) + (x10_8.length : Int))) - 53)) < (-1074)
       ·
        rw [if_pos c23] at H
        have c23b0 : decide ((wrap64 ((wrap64 ((wrap64 (a2 - 2)) + (x10_8.length : Int))) - 53)) < (-1074)) = true := decide_eq_true c23
        clear c23
        (first | rw [c23b0] | (simp only [i64_w, i32_w]; rw [c23b0]) | skip)
        have H' := Aside0.mk H
        clear H
        go_wp2
        go_meet
        case rel => exact ⟨_, ((-1074)), (by first | rfl | (simp; done) | (simp [*]; done)), H', ⟨by have := HJ4.out; have := HJ8.out; first | omega | exact Nat.le_refl _⟩, ⟨kr HO_10⟩, ⟨kb BK511⟩, ⟨bes⟩⟩
       ·
        rw [if_neg c23] at H
        have c23b0 : decide ((wrap64 ((wrap64 ((wrap64 (a2 - 2)) + (x10_8.length : Int))) - 53)) < (-1074)) = false := decide_eq_false c23
        clear c23
        (first | rw [c23b0] | (simp only [i64_w, i32_w]; rw [c23b0]) | skip)
        have H' := Aside0.mk H
        clear H
        go_wp2
        go_meet
        case rel => exact ⟨_, (wrap64 ((wrap64 ((wrap64 (a2 - 2)) + (x10_8.length : Int))) - 53)), (by first | rfl | (simp; done) | (simp [*]; done)), H', ⟨by have := HJ4.out; have := HJ8.out; first | omega | exact Nat.le_refl _⟩, ⟨kr HO_10⟩, ⟨kb BK511⟩, ⟨bes⟩⟩
      case rest =>
       clear HC21
       try clear c1
       try clear c2
       try clear p2
       try clear c4
       try clear c6
       try clear p6
       try clear c7
       try clear c11
       try clear c18
       try clear c18b0
       try clear c18b1
       try clear c18b2
       try clear c23
       try clear c23b0
       try clear hcz20_0
       try clear hcz20_1
       try clear hfz20_0
       try clear hfz20_1
       try clear p2
       try clear p6
       obtain ⟨kq, x11_20, rfl, HA, HJ20, HO_10, BK511, HB⟩ := hcut
       cases kq with
       | zero => exact absurd HA.out (by simp [gimbalref03_Round.j2])
       | succ kj20 =>
        have H := HA.out
        clear HA
        simp only [gimbalref03_Round.j2] at H
        have HC24 := Aside0.mk H
        clear H
        go_upto_if 52 with (fail)
        go_cut [12, 13, 14] (fun v12 v13 v14 wc => ∃ (kq : Nat) (x12_23 : Bool) (x13_23 : List Int) (x14_23 : Bool), v12 = .bool x12_23 ∧ v14 = .bool x14_23 ∧ Aside0 (gimbalref03_Round.j5 kq x9_4 x11_20 x12_23 x13_23 x14_23 = some (r1, r2)) ∧ Aside0 (kq ≤ kj20) ∧ Aside0 (Kd.R (Kd.int .i64) 3 wc w.heap.size (fun _ => True) v13 x13_23) ∧ Aside0 (wc.heap[gb511]? = some (.cells #[.int .u64 0, .int .i64 0] 74 (0, 0))) ∧ Aside0 (Below w.heap.size w wc))
        case first =>
         have H := HC24.out
         clear HC24
         by_cases c25 : x11_20 > (wrap64 (a2 - 2))
         ·
          rw [if_pos c25] at H
          have c25b0 : decide ((wrap64 (a2 - 2)) < x11_20) = true := decide_eq_true c25
          clear c25
          (first | rw [c25b0] | (simp only [i64_w, i32_w]; rw [c25b0]) | skip)
          obtain ⟨⟨t521, t522⟩, A260, H⟩ := Option.bind_eq_some_iff.mp H
          (try dsimp -simprocs only at H)
          have A26 := Aside0.mk A260
          clear A260
          obtain ⟨t525, A270, H⟩ := Option.bind_eq_some_iff.mp H
          (try dsimp -simprocs only at H)
          have A27 := Aside0.mk A270
          clear A270
          obtain ⟨t528, A280, H⟩ := Option.bind_eq_some_iff.mp H
          (try dsimp -simprocs only at H)
          have A28 := Aside0.mk A280
          clear A280
          obtain ⟨t531, A290, H⟩ := Option.bind_eq_some_iff.mp H
          (try dsimp -simprocs only at H)
          have A29 := Aside0.mk A290
          clear A290
          obtain ⟨y534, hy534⟩ : ∃ y_ : List Int, y_ = (([1] : List Int)) := ⟨_, rfl⟩
          replace H : ((gimbalref02_Up.f kj20 y534 (wrap64 (x11_20 - (wrap64 (a2 - 2))))).bind fun t537 => ((gimbalref02_Cmp.f kj20 t531 t537).bind fun t540 => (if (t521.length : Int) > 0 then (if 0 < (t521.length : Int) then (gimbalref03_Round.j3 kj20 x9_4 x11_20 (decide ((wrap64 ((wrap64 (a2 - 2)) + (x10_8.length : Int))) < (-1021))) t522 t521 t540 ((rd t521 0) == 1)) else (none)) else (gimbalref03_Round.j3 kj20 x9_4 x11_20 (decide ((wrap64 ((wrap64 (a2 - 2)) + (x10_8.length : Int))) < (-1021))) t522 t521 t540 false)))) = some (r1, r2) := by first | (rw [hy534]; with_reducible exact H) | (have H2_ := (Option.bind_some _ _).symm.trans H; rw [hy534]; with_reducible exact H2_) | (have H2_ := (Option.bind_some _ _).symm.trans H; with_reducible exact H2_) | with_reducible exact H | (rw [hy534]; exact H) | exact H
          have Ny534 := Aside0.mk hy534
          clear hy534
          obtain ⟨t537, A300, H⟩ := Option.bind_eq_some_iff.mp H
          (try dsimp -simprocs only at H)
          have A30 := Aside0.mk A300
          clear A300
          obtain ⟨t540, A310, H⟩ := Option.bind_eq_some_iff.mp H
          (try dsimp -simprocs only at H)
          have A31 := Aside0.mk A310
          clear A310
          have HC32 := Aside0.mk H
          clear H
          go_upto_region 21 with (first | ((with_reducible refine gate_callee (f := 70) rfl ?_); refine goesL_ (some 58) rfl rfl Tryd.func70 (by kernel_rfl) rfl #[.slice Ao22 x10_8.length co22, .int .i64 (wrap64 (x11_20 - (wrap64 (a2 - 2))))] rfl ga ?_; (with_reducible refine (gimbalref02_Down.calls kj20 _ _ x10_8 (wrap64 (x11_20 - (wrap64 (a2 - 2)))) t521 t522 _ ?side1 ?side2 A26.out).mono ?_); (case side1 => exact ks HO_10); (case side2 => exact (Kd.R_reads' HO_10.out).2.1); rintro e w33 ⟨v523, rfl, ho0, hb⟩; refine ⟨_, rfl, ?_⟩; refine ax4 (Kd.R_elder' (kr HO_10) (Kd.R_base ho0) hb) (Kd.R_lower (Kd.R_new' ho0 (Kd.R_lt (kr HO_10))) (below_size bes)) (bb BK511 hb) (below_step bes hb) ?_; clear HO_10; clear BK511; clear HB; intro HO_10 HO524 BK511 HB; (try clear hb); (try clear ho0); obtain ⟨Ao34, co34, eo34⟩ := Kd.R_slice HO524.out; subst eo34) | ((with_reducible refine gate_callee (f := 68) rfl ?_); refine goesL_ (some 67) rfl rfl Tryd.func68 (by kernel_rfl) rfl #[.slice Ao34 t521.length co34, .int .i64 (wrap64 (x11_20 - (wrap64 (a2 - 2))))] rfl ga ?_; (with_reducible refine (gimbalref02_Up.calls kj20 _ _ t521 (wrap64 (x11_20 - (wrap64 (a2 - 2)))) t525 _ ?side1 ?side2 A27.out).mono ?_); (case side1 => exact ks HO524); (case side2 => exact (Kd.R_reads' HO524.out).2.1); rintro e w35 ⟨v526, rfl, ho0, hb⟩; refine ⟨_, rfl, ?_⟩; refine ax5 (Kd.R_elder' (kr HO_10) (Kd.R_base ho0) hb) (Kd.R_elder' (kr HO524) (Kd.R_base ho0) hb) (Kd.R_lower (Kd.R_new' (Kd.R_new' ho0 (Kd.R_lt (kr HO_10))) (Kd.R_lt (kr HO524))) (below_size bes)) (bb BK511 hb) (below_step bes hb) ?_; clear HO_10; clear HO524; clear BK511; clear HB; intro HO_10 HO524 HO527 BK511 HB; (try clear hb); (try clear ho0); obtain ⟨Ao36, co36, eo36⟩ := Kd.R_slice HO527.out; subst eo36) | ((with_reducible refine gate_callee (f := 48) rfl ?_); refine goesL_ (some 68) rfl rfl Tryd.func48 (by kernel_rfl) rfl #[.slice Ao22 x10_8.length co22, .slice Ao36 t525.length co36] rfl ga ?_; (with_reducible refine (gimbalref02_Sub.calls kj20 _ _ x10_8 _ _ t525 t528 _ ?side1 ?side2 ?side3 ?side4 A28.out).mono ?_); (case side1 => exact ks HO_10); (case side2 => exact (Kd.R_reads' HO_10.out).2.1); (case side3 => exact ks HO527); (case side4 => exact (Kd.R_reads' HO527.out).2.1); rintro e w37 ⟨v529, rfl, ho0, hb⟩; refine ⟨_, rfl, ?_⟩; refine ax6 (Kd.R_elder' (kr HO_10) (Kd.R_base ho0) hb) (Kd.R_elder' (kr HO524) (Kd.R_base ho0) hb) (Kd.R_elder' (kr HO527) (Kd.R_base ho0) hb) (Kd.R_lower (Kd.R_new' (Kd.R_new' (Kd.R_new' ho0 (Kd.R_lt (kr HO_10))) (Kd.R_lt (kr HO524))) (Kd.R_lt (kr HO527))) (below_size bes)) (bb BK511 hb) (below_step bes hb) ?_; clear HO_10; clear HO524; clear HO527; clear BK511; clear HB; intro HO_10 HO524 HO527 HO530 BK511 HB; (try clear hb); (try clear ho0); obtain ⟨Ao38, co38, eo38⟩ := Kd.R_slice HO530.out; subst eo38) | ((with_reducible refine gate_callee (f := 68) rfl ?_); refine goesL_ (some 70) rfl rfl Tryd.func68 (by kernel_rfl) rfl #[.slice Ao38 t528.length co38, .int .i64 1] rfl ga ?_; (with_reducible refine (gimbalref02_Up.calls kj20 _ _ t528 1 t531 _ ?side1 ?side2 A29.out).mono ?_); (case side1 => exact ks HO530); (case side2 => exact (Kd.R_reads' HO530.out).2.1); rintro e w39 ⟨v532, rfl, ho0, hb⟩; refine ⟨_, rfl, ?_⟩; refine ax7 (Kd.R_elder' (kr HO_10) (Kd.R_base ho0) hb) (Kd.R_elder' (kr HO524) (Kd.R_base ho0) hb) (Kd.R_elder' (kr HO527) (Kd.R_base ho0) hb) (Kd.R_elder' (kr HO530) (Kd.R_base ho0) hb) (Kd.R_lower (Kd.R_new' (Kd.R_new' (Kd.R_new' (Kd.R_new' ho0 (Kd.R_lt (kr HO_10))) (Kd.R_lt (kr HO524))) (Kd.R_lt (kr HO527))) (Kd.R_lt (kr HO530))) (below_size bes)) (bb BK511 hb) (below_step bes hb) ?_; clear HO_10; clear HO524; clear HO527; clear HO530; clear BK511; clear HB; intro HO_10 HO524 HO527 HO530 HO533 BK511 HB; (try clear hb); (try clear ho0)) | ((with_reducible refine gate_dst (N := 71) rfl ?_); refine Kd.R_lit (Kd.int .i64) _ 3 ?hg (N := 71) ?hd (xs := ([1] : List Int)) (inner := [.int .i64 1]) (ok := fun _ => True) (okp := fun _ => True) ?hr ?hp (fun _ hk => hk) trivial (Below.refl _ _) (Nat.le_refl _) (by simp) ?_; (case hd => rfl); (case hg => rfl); (case hr => first | (go_simp; done) | (go_simp; rfl)); (case hp => exact (Reps.one (show Kd.M (Kd.int .i64) _ _ _ 1 [.int .i64 1] from rfl) (Reps.none _ _))); intro v535 w40 ho41 hb hg_ hnew_; clear hg_ hnew_; (first | rw [← Ny534.out] at ho41 | (simp only [Int.reduceToNat] at ho41; rw [← Ny534.out] at ho41)); refine ax8 (Kd.R_elder' (kr HO_10) (Kd.R_base ho41) hb) (Kd.R_elder' (kr HO524) (Kd.R_base ho41) hb) (Kd.R_elder' (kr HO527) (Kd.R_base ho41) hb) (Kd.R_elder' (kr HO530) (Kd.R_base ho41) hb) (Kd.R_elder' (kr HO533) (Kd.R_base ho41) hb) (Kd.R_lower (Kd.R_new' (Kd.R_new' (Kd.R_new' (Kd.R_new' (Kd.R_new' ho41 (Kd.R_lt (kr HO_10))) (Kd.R_lt (kr HO524))) (Kd.R_lt (kr HO527))) (Kd.R_lt (kr HO530))) (Kd.R_lt (kr HO533))) (below_size bes)) (bb BK511 hb) (below_step bes hb) ?_; clear HO_10; clear HO524; clear HO527; clear HO530; clear HO533; clear BK511; clear HB; intro HO_10 HO524 HO527 HO530 HO533 HO536 BK511 HB; clear hb ho41; obtain ⟨Ao42, co42, eo42⟩ := Kd.R_slice HO536.out; subst eo42) | ((with_reducible refine gate_callee (f := 68) rfl ?_); refine goesL_ (some 75) rfl rfl Tryd.func68 (by kernel_rfl) rfl #[.slice Ao42 y534.length co42, .int .i64 (wrap64 (x11_20 - (wrap64 (a2 - 2))))] rfl ga ?_; (with_reducible refine (gimbalref02_Up.calls kj20 _ _ y534 (wrap64 (x11_20 - (wrap64 (a2 - 2)))) t537 _ ?side1 ?side2 A30.out).mono ?_); (case side1 => exact ks HO536); (case side2 => exact (Kd.R_reads' HO536.out).2.1); rintro e w43 ⟨v538, rfl, ho0, hb⟩; refine ⟨_, rfl, ?_⟩; refine ax9 (Kd.R_elder' (kr HO_10) (Kd.R_base ho0) hb) (Kd.R_elder' (kr HO524) (Kd.R_base ho0) hb) (Kd.R_elder' (kr HO527) (Kd.R_base ho0) hb) (Kd.R_elder' (kr HO530) (Kd.R_base ho0) hb) (Kd.R_elder' (kr HO533) (Kd.R_base ho0) hb) (Kd.R_elder' (kr HO536) (Kd.R_base ho0) hb) (Kd.R_lower (Kd.R_new' (Kd.R_new' (Kd.R_new' (Kd.R_new' (Kd.R_new' (Kd.R_new' ho0 (Kd.R_lt (kr HO_10))) (Kd.R_lt (kr HO524))) (Kd.R_lt (kr HO527))) (Kd.R_lt (kr HO530))) (Kd.R_lt (kr HO533))) (Kd.R_lt (kr HO536))) (below_size bes)) (bb BK511 hb) (below_step bes hb) ?_; clear HO_10; clear HO524; clear HO527; clear HO530; clear HO533; clear HO536; clear BK511; clear HB; intro HO_10 HO524 HO527 HO530 HO533 HO536 HO539 BK511 HB; (try clear hb); (try clear ho0); obtain ⟨Ao44, co44, eo44⟩ := Kd.R_slice HO533.out; subst eo44; obtain ⟨Ao45, co45, eo45⟩ := Kd.R_slice HO539.out; subst eo45) | ((with_reducible refine gate_callee (f := 47) rfl ?_); refine goesL_ (some 76) rfl rfl Tryd.func47 (by kernel_rfl) rfl #[.slice Ao44 t531.length co44, .slice Ao45 t537.length co45] rfl ga ?_; (with_reducible refine (gimbalref02_Cmp.calls kj20 _ _ t531 _ _ t537 t540 _ ?side1 ?side2 ?side3 ?side4 A31.out).mono ?_); (case side1 => exact ks HO533); (case side2 => exact (Kd.R_reads' HO533.out).2.1); (case side3 => exact ks HO539); (case side4 => exact (Kd.R_reads' HO539.out).2.1); rintro e w46 ⟨rfl, hb⟩; refine ⟨_, rfl, ?_⟩; refine ax9 (Kd.R_below (kr HO_10) hb) (Kd.R_below (kr HO524) hb) (Kd.R_below (kr HO527) hb) (Kd.R_below (kr HO530) hb) (Kd.R_below (kr HO533) hb) (Kd.R_below (kr HO536) hb) (Kd.R_below (kr HO539) hb) (bb BK511 hb) (below_step bes hb) ?_; clear HO_10; clear HO524; clear HO527; clear HO530; clear HO533; clear HO536; clear HO539; clear BK511; clear HB; intro HO_10 HO524 HO527 HO530 HO533 HO536 HO539 BK511 HB; (try clear hb)))
          (try simp only [Act.put, sa0, sa1, sa2])
          go_cut [12, 19] (fun v12 v19 wc => ∃ (kq : Nat) (x12_31 : Bool) (x19_31 : Bool), v12 = .bool x12_31 ∧ v19 = .bool x19_31 ∧ Aside0 (gimbalref03_Round.j3 kq x9_4 x11_20 x12_31 t522 t521 t540 x19_31 = some (r1, r2)) ∧ Aside0 (kq ≤ kj20) ∧ Aside0 (Kd.R (Kd.int .i64) 3 wc w.heap.size (fun _ => True) (.slice Ao34 t521.length co34) t521) ∧ Aside0 (wc.heap[gb511]? = some (.cells #[.int .u64 0, .int .i64 0] 74 (0, 0))) ∧ Aside0 (Below w.heap.size w wc))
          case first =>
           have H := HC32.out
           clear HC32
           by_cases c47 : (t521.length : Int) > 0
           ·
            rw [if_pos c47] at H
            have c47b0 : decide (0 < (t521.length : Int)) = true := decide_eq_true c47
            have c47b1 : decide (0 < t521.length) = true := decide_eq_true (by omega)
            clear c47
            (first | rw [c47b0] | rw [c47b1] | (simp only [i64_w, i32_w]; first | rw [c47b0] | rw [c47b1]) | skip)
            by_cases c48 : 0 < (t521.length : Int)
            ·
             rw [if_pos c48] at H
             have c48b0 : decide (0 < (t521.length : Int)) = true := decide_eq_true c48
             have c48b1 : decide (0 < t521.length) = true := decide_eq_true (by omega)
             clear c48
             have H' := Aside0.mk H
             clear H
             have p541 : 0 ≤ (0 : Int) := (by omega)
             have q541 : 0 < (t521.length : Int) := of_decide_eq_true (by first | (with_reducible assumption) | assumption)
             obtain ⟨ad541, e541, hx541_0⟩ := Kd.at_int (Kd.R_reads' HO524.out).2.2 0 p541 q541
             cases e541
             have qi541 : (0 < t521.length) = True := eq_true (by omega)
             (try rw [show ((0 : Int)).toNat = 0 from rfl] at hx541_0)
             (try rw [Addr.add_zero'] at hx541_0)
             replace p541 := eq_true p541
             replace q541 := eq_true q541
             go_wp2
             go_meet
             case rel => exact ⟨_, (decide ((wrap64 ((wrap64 (a2 - 2)) + (x10_8.length : Int))) < (-1021))), (((rd t521 0) == 1)), (by first | rfl | (simp; done) | (simp [*]; done)), (by first | rfl | (simp; done) | (simp [*]; done)), H', ⟨by have := HJ4.out; have := HJ8.out; have := HJ20.out; first | omega | exact Nat.le_refl _⟩, ⟨by (with_reducible repeat (first | apply Kd.R_alloc | apply Kd.R_drewN | apply Kd.R_drew)); exact Kd.R_mono HO524.out (fun _ hk => trivial)⟩, ⟨kb BK511⟩, ⟨bes⟩⟩
            ·
             rw [if_neg c48] at H
             exact absurd H (by simp)
           ·
            rw [if_neg c47] at H
            have c47b0 : decide (0 < (t521.length : Int)) = false := decide_eq_false c47
            have c47b1 : decide (0 < t521.length) = false := decide_eq_false (by omega)
            clear c47
            (first | rw [c47b0] | rw [c47b1] | (simp only [i64_w, i32_w]; first | rw [c47b0] | rw [c47b1]) | skip)
            have H' := Aside0.mk H
            clear H
            go_wp2
            go_meet
            case rel => exact ⟨_, (decide ((wrap64 ((wrap64 (a2 - 2)) + (x10_8.length : Int))) < (-1021))), (false), (by first | rfl | (simp; done) | (simp [*]; done)), (by first | rfl | (simp; done) | (simp [*]; done)), H', ⟨by have := HJ4.out; have := HJ8.out; have := HJ20.out; first | omega | exact Nat.le_refl _⟩, ⟨by (with_reducible repeat (first | apply Kd.R_alloc | apply Kd.R_drewN | apply Kd.R_drew)); exact Kd.R_mono HO524.out (fun _ hk => trivial)⟩, ⟨kb BK511⟩, ⟨bes⟩⟩
          case rest =>
           clear HC32
           try clear c1
           try clear c2
           try clear p2
           try clear c4
           try clear p5
           try clear q5
           try clear hx5
           try clear qi5
           try clear c6
           try clear p6
           try clear c7
           try clear c11
           try clear c18
           try clear c18b0
           try clear c18b1
           try clear c18b2
           try clear c23
           try clear c23b0
           try clear c25
           try clear c25b0
           try clear c46
           try clear c47
           try clear c47b0
           try clear c47b1
           try clear c48
           try clear c48b0
           try clear c48b1
           try clear hcz20_0
           try clear hcz20_1
           try clear hfz20_0
           try clear hfz20_1
           try clear hx541_0
           try clear p2
           try clear p541
           try clear p6
           try clear q541
           obtain ⟨kq, x12_31, x19_31, rfl, rfl, HA, HJ31, HO_15, BK511, HB⟩ := hcut
           cases kq with
           | zero => exact absurd HA.out (by simp [gimbalref03_Round.j3])
           | succ kj31 =>
            have H := HA.out
            clear HA
            simp only [gimbalref03_Round.j3] at H
            have HC49 := Aside0.mk H
            clear H
            go_upto_region 22 with (fail)
            go_cut [94] (fun v94 wc => ∃ (kq : Nat) (x94_48 : Bool), v94 = .bool x94_48 ∧ Aside0 (gimbalref03_Round.j4 kq x9_4 x11_20 x12_31 t522 t521 x94_48 = some (r1, r2)) ∧ Aside0 (kq ≤ kj31) ∧ Aside0 (Kd.R (Kd.int .i64) 3 wc w.heap.size (fun _ => True) (.slice Ao34 t521.length co34) t521) ∧ Aside0 (wc.heap[gb511]? = some (.cells #[.int .u64 0, .int .i64 0] 74 (0, 0))) ∧ Aside0 (Below w.heap.size w wc))
            case first =>
             have H := HC49.out
             clear HC49
             by_cases c50 : t540 > 0
             ·
              rw [if_pos c50] at H
              have c50b0 : decide (0 < t540) = true := decide_eq_true c50
              clear c50
              (first | rw [c50b0] | (simp only [i64_w, i32_w]; rw [c50b0]) | skip)
              have H' := Aside0.mk H
              clear H
              go_wp2
              go_meet
              case rel => exact ⟨_, (true), (by first | rfl | (simp; done) | (simp [*]; done)), H', ⟨by have := HJ4.out; have := HJ8.out; have := HJ20.out; have := HJ31.out; first | omega | exact Nat.le_refl _⟩, ⟨kr HO_15⟩, ⟨kb BK511⟩, ⟨bes⟩⟩
             ·
              rw [if_neg c50] at H
              have c50b0 : decide (0 < t540) = false := decide_eq_false c50
              clear c50
              (first | rw [c50b0] | (simp only [i64_w, i32_w]; rw [c50b0]) | skip)
              by_cases c51 : t540 = 0
              ·
               rw [if_pos c51] at H
               have c51b0 : (t540 == 0) = true := beq_iff_eq.mpr c51
               have c51b1 : (t540 != 0) = false := bne_eq_false_iff_eq.mpr c51
               clear c51
               have H' := Aside0.mk H
               clear H
               go_wp2
               go_meet
               case rel => exact ⟨_, (x19_31), (by first | rfl | (simp; done) | (simp [*]; done)), H', ⟨by have := HJ4.out; have := HJ8.out; have := HJ20.out; have := HJ31.out; first | omega | exact Nat.le_refl _⟩, ⟨kr HO_15⟩, ⟨kb BK511⟩, ⟨bes⟩⟩
              ·
               rw [if_neg c51] at H
               have c51b0 : (t540 == 0) = false := beq_eq_false_iff_ne.mpr c51
               have c51b1 : (t540 != 0) = true := bne_iff_ne.mpr c51
               have H' := Aside0.mk H
               clear H
               go_wp2
               go_meet
               case rel => exact ⟨_, (false), (by first | rfl | (simp; done) | (simp [*]; done)), H', ⟨by have := HJ4.out; have := HJ8.out; have := HJ20.out; have := HJ31.out; first | omega | exact Nat.le_refl _⟩, ⟨kr HO_15⟩, ⟨kb BK511⟩, ⟨bes⟩⟩
            case rest =>
             clear HC49
             try clear c1
             try clear c2
             try clear p2
             try clear c4
             try clear c5
             try clear p5
             try clear q5
             try clear hx5
             try clear qi5
             try clear c6
             try clear p6
             try clear c7
             try clear c11
             try clear c18
             try clear c18b0
             try clear c18b1
             try clear c18b2
             try clear c23
             try clear c23b0
             try clear c25
             try clear c25b0
             try clear c46
             try clear c47
             try clear c47b0
             try clear c47b1
             try clear c48
             try clear c48b0
             try clear c48b1
             try clear c49
             try clear c50
             try clear c50b0
             try clear c51
             try clear c51b0
             try clear c51b1
             try clear hcz20_0
             try clear hcz20_1
             try clear hfz20_0
             try clear hfz20_1
             try clear hx541_0
             try clear p2
             try clear p5
             try clear p541
             try clear p6
             try clear q5
             try clear q541
             obtain ⟨kq, x94_48, rfl, HA, HJ48, HO_15, BK511, HB⟩ := hcut
             cases kq with
             | zero => exact absurd HA.out (by simp [gimbalref03_Round.j4])
             | succ kj48 =>
              have H := HA.out
              clear HA
              simp only [gimbalref03_Round.j4] at H
              by_cases c52 : x94_48 = true
              ·
               subst c52
               rw [if_pos rfl] at H
               obtain ⟨y542, hy542⟩ : ∃ y_ : List Int, y_ = (([1] : List Int)) := ⟨_, rfl⟩
               replace H : ((gimbalref02_Add.f kj48 t521 y542).bind fun t545 => (gimbalref03_Round.j5 kj48 x9_4 x11_20 x12_31 t545 t522)) = some (r1, r2) := by first | (rw [hy542]; with_reducible exact H) | (have H2_ := (Option.bind_some _ _).symm.trans H; rw [hy542]; with_reducible exact H2_) | (have H2_ := (Option.bind_some _ _).symm.trans H; with_reducible exact H2_) | with_reducible exact H | (rw [hy542]; exact H) | exact H
               have Ny542 := Aside0.mk hy542
               clear hy542
               obtain ⟨t545, A530, H⟩ := Option.bind_eq_some_iff.mp H
               (try dsimp -simprocs only at H)
               have A53 := Aside0.mk A530
               clear A530
               have H' := Aside0.mk H
               clear H
               go_wp2_with (first | ((with_reducible refine gate_dst (N := 96) rfl ?_); refine Kd.R_lit (Kd.int .i64) _ 3 ?hg (N := 96) ?hd (xs := ([1] : List Int)) (inner := [.int .i64 1]) (ok := fun _ => True) (okp := fun _ => True) ?hr ?hp (fun _ hk => hk) trivial (Below.refl _ _) (Nat.le_refl _) (by simp) ?_; (case hd => rfl); (case hg => rfl); (case hr => first | (go_simp; done) | (go_simp; rfl)); (case hp => exact (Reps.one (show Kd.M (Kd.int .i64) _ _ _ 1 [.int .i64 1] from rfl) (Reps.none _ _))); intro v543 w54 ho55 hb hg_ hnew_; clear hg_ hnew_; (first | rw [← Ny542.out] at ho55 | (simp only [Int.reduceToNat] at ho55; rw [← Ny542.out] at ho55)); refine ax4 (Kd.R_elder' (kr HO_15) (Kd.R_base ho55) hb) (Kd.R_lower (Kd.R_new' ho55 (Kd.R_lt (kr HO_15))) (below_size bes)) (bb BK511 hb) (below_step bes hb) ?_; clear HO_15; clear BK511; clear HB; intro HO_15 HO544 BK511 HB; clear hb ho55; obtain ⟨Ao56, co56, eo56⟩ := Kd.R_slice HO544.out; subst eo56) | ((with_reducible refine gate_callee (f := 46) rfl ?_); refine goesL_ (some 97) rfl rfl Tryd.func46 (by kernel_rfl) rfl #[.slice Ao34 t521.length co34, .slice Ao56 y542.length co56] rfl ga ?_; (with_reducible refine (gimbalref02_Add.calls kj48 _ _ t521 _ _ y542 t545 _ ?side1 ?side2 ?side3 ?side4 A53.out).mono ?_); (case side1 => exact ks HO_15); (case side2 => exact (Kd.R_reads' HO_15.out).2.1); (case side3 => exact ks HO544); (case side4 => exact (Kd.R_reads' HO544.out).2.1); rintro e w57 ⟨v546, rfl, ho0, hb⟩; refine ⟨_, rfl, ?_⟩; refine ax5 (Kd.R_elder' (kr HO_15) (Kd.R_base ho0) hb) (Kd.R_elder' (kr HO544) (Kd.R_base ho0) hb) (Kd.R_lower (Kd.R_new' (Kd.R_new' ho0 (Kd.R_lt (kr HO_15))) (Kd.R_lt (kr HO544))) (below_size bes)) (bb BK511 hb) (below_step bes hb) ?_; clear HO_15; clear HO544; clear BK511; clear HB; intro HO_15 HO544 HO547 BK511 HB; (try clear hb); (try clear ho0)))
               go_meet
               case rel => exact ⟨_, (x12_31), (t545), (t522), (by first | rfl | (simp; done) | (simp [*]; done)), (by first | rfl | (simp; done) | (simp [*]; done)), H', ⟨by have := HJ4.out; have := HJ8.out; have := HJ20.out; have := HJ31.out; have := HJ48.out; first | omega | exact Nat.le_refl _⟩, ⟨by (with_reducible repeat (first | apply Kd.R_alloc | apply Kd.R_drewN | apply Kd.R_drew)); exact Kd.R_mono HO547.out (fun _ hk => trivial)⟩, ⟨kb BK511⟩, ⟨bes⟩⟩
              ·
               replace c52 := Bool.eq_false_iff.mpr c52
               subst c52
               rw [if_neg (show ¬ (false = true) by decide)] at H
               have H' := Aside0.mk H
               clear H
               go_wp2
               go_meet
               case rel => exact ⟨_, (x12_31), (t521), (t522), (by first | rfl | (simp; done) | (simp [*]; done)), (by first | rfl | (simp; done) | (simp [*]; done)), H', ⟨by have := HJ4.out; have := HJ8.out; have := HJ20.out; have := HJ31.out; have := HJ48.out; first | omega | exact Nat.le_refl _⟩, ⟨kr HO_15⟩, ⟨kb BK511⟩, ⟨bes⟩⟩
         ·
          rw [if_neg c25] at H
          have c25b0 : decide ((wrap64 (a2 - 2)) < x11_20) = false := decide_eq_false c25
          clear c25
          (first | rw [c25b0] | (simp only [i64_w, i32_w]; rw [c25b0]) | skip)
          obtain ⟨t548, A580, H⟩ := Option.bind_eq_some_iff.mp H
          (try dsimp -simprocs only at H)
          have A58 := Aside0.mk A580
          clear A580
          have H' := Aside0.mk H
          clear H
          go_wp2_with (first | ((with_reducible refine gate_callee (f := 68) rfl ?_); refine goesL_ (some 103) rfl rfl Tryd.func68 (by kernel_rfl) rfl #[.slice Ao22 x10_8.length co22, .int .i64 (wrap64 ((wrap64 (a2 - 2)) - x11_20))] rfl ga ?_; (with_reducible refine (gimbalref02_Up.calls kj20 _ _ x10_8 (wrap64 ((wrap64 (a2 - 2)) - x11_20)) t548 _ ?side1 ?side2 A58.out).mono ?_); (case side1 => exact ks HO_10); (case side2 => exact (Kd.R_reads' HO_10.out).2.1); rintro e w59 ⟨v549, rfl, ho0, hb⟩; refine ⟨_, rfl, ?_⟩; refine ax4 (Kd.R_elder' (kr HO_10) (Kd.R_base ho0) hb) (Kd.R_lower (Kd.R_new' ho0 (Kd.R_lt (kr HO_10))) (below_size bes)) (bb BK511 hb) (below_step bes hb) ?_; clear HO_10; clear BK511; clear HB; intro HO_10 HO550 BK511 HB; (try clear hb); (try clear ho0)))
          go_meet
          case rel => exact ⟨_, (decide ((wrap64 ((wrap64 (a2 - 2)) + (x10_8.length : Int))) < (-1021))), (t548), (false), (by first | rfl | (simp; done) | (simp [*]; done)), (by first | rfl | (simp; done) | (simp [*]; done)), H', ⟨by have := HJ4.out; have := HJ8.out; have := HJ20.out; first | omega | exact Nat.le_refl _⟩, ⟨by (with_reducible repeat (first | apply Kd.R_alloc | apply Kd.R_drewN | apply Kd.R_drew)); exact Kd.R_mono HO550.out (fun _ hk => trivial)⟩, ⟨kb BK511⟩, ⟨bes⟩⟩
        case rest =>
         clear HC24
         try clear c1
         try clear c2
         try clear p2
         try clear c4
         try clear c5
         try clear p5
         try clear q5
         try clear hx5
         try clear qi5
         try clear c6
         try clear p6
         try clear c7
         try clear c11
         try clear c18
         try clear c18b0
         try clear c18b1
         try clear c18b2
         try clear c23
         try clear c23b0
         try clear c25
         try clear c25b0
         try clear c46
         try clear c47
         try clear c47b0
         try clear c47b1
         try clear c48
         try clear c48b0
         try clear c48b1
         try clear c49
         try clear c50
         try clear c50b0
         try clear c51
         try clear c51b0
         try clear c51b1
         try clear c52
         try clear p54
         try clear q54
         try clear hx54
         try clear qi54
         try clear hcz20_0
         try clear hcz20_1
         try clear hfz20_0
         try clear hfz20_1
         try clear hx541_0
         try clear p2
         try clear p5
         try clear p541
         try clear p6
         try clear q5
         try clear q541
         obtain ⟨kq, x12_23, x13_23, x14_23, rfl, rfl, HA, HJ23, HO_13, BK511, HB⟩ := hcut
         cases kq with
         | zero => exact absurd HA.out (by simp [gimbalref03_Round.j5])
         | succ kj23 =>
          have H := HA.out
          clear HA
          simp only [gimbalref03_Round.j5] at H
          have HC60 := Aside0.mk H
          clear H
          go_upto_if 104 with (fail)
          go_cut [20] (fun v20 wc => ∃ (kq : Nat) (x20_59 : Int), v20 = .int .i64 x20_59 ∧ Aside0 (gimbalref03_Round.j6 kq x9_4 x11_20 x13_23 x20_59 = some (r1, r2)) ∧ Aside0 (kq ≤ kj23) ∧ Aside0 (Kd.R (Kd.int .i64) 3 wc w.heap.size (fun _ => True) u13 x13_23) ∧ Aside0 (wc.heap[gb511]? = some (.cells #[.int .u64 0, .int .i64 0] 74 (0, 0))) ∧ Aside0 (Below w.heap.size w wc))
          case first =>
           have H := HC60.out
           clear HC60
           by_cases c61 : x14_23 = true
           ·
            subst c61
            rw [if_pos rfl] at H
            by_cases c62 : x12_23 = true
            ·
             subst c62
             rw [if_pos rfl] at H
             have H' := Aside0.mk H
             clear H
             go_wp2
             go_meet
             case rel => exact ⟨_, (3), (by first | rfl | (simp; done) | (simp [*]; done)), H', ⟨by have := HJ4.out; have := HJ8.out; have := HJ20.out; have := HJ23.out; first | omega | exact Nat.le_refl _⟩, ⟨kr HO_13⟩, ⟨kb BK511⟩, ⟨bes⟩⟩
            ·
             replace c62 := Bool.eq_false_iff.mpr c62
             subst c62
             rw [if_neg (show ¬ (false = true) by decide)] at H
             have H' := Aside0.mk H
             clear H
             go_wp2
             go_meet
             case rel => exact ⟨_, (1), (by first | rfl | (simp; done) | (simp [*]; done)), H', ⟨by have := HJ4.out; have := HJ8.out; have := HJ20.out; have := HJ23.out; first | omega | exact Nat.le_refl _⟩, ⟨kr HO_13⟩, ⟨kb BK511⟩, ⟨bes⟩⟩
           ·
            replace c61 := Bool.eq_false_iff.mpr c61
            subst c61
            rw [if_neg (show ¬ (false = true) by decide)] at H
            have H' := Aside0.mk H
            clear H
            go_wp2
            go_meet
            case rel => exact ⟨_, (0), (by first | rfl | (simp; done) | (simp [*]; done)), H', ⟨by have := HJ4.out; have := HJ8.out; have := HJ20.out; have := HJ23.out; first | omega | exact Nat.le_refl _⟩, ⟨kr HO_13⟩, ⟨kb BK511⟩, ⟨bes⟩⟩
          case rest =>
           clear HC60
           try clear c1
           try clear c2
           try clear p2
           try clear c4
           try clear c5
           try clear p5
           try clear q5
           try clear hx5
           try clear qi5
           try clear c6
           try clear p6
           try clear c7
           try clear c11
           try clear c18
           try clear c18b0
           try clear c18b1
           try clear c18b2
           try clear c23
           try clear c23b0
           try clear c25
           try clear c25b0
           try clear c46
           try clear c47
           try clear c47b0
           try clear c47b1
           try clear c48
           try clear c48b0
           try clear c48b1
           try clear c49
           try clear c50
           try clear c50b0
           try clear c51
           try clear c51b0
           try clear c51b1
           try clear c52
           try clear p54
           try clear q54
           try clear hx54
           try clear qi54
           try clear c61
           try clear c62
           try clear hcz20_0
           try clear hcz20_1
           try clear hfz20_0
           try clear hfz20_1
           try clear hx541_0
           try clear p2
           try clear p5
           try clear p54
           try clear p541
           try clear p6
           try clear q5
           try clear q54
           try clear q541
           obtain ⟨kq, x20_59, rfl, HA, HJ59, HO_13, BK511, HB⟩ := hcut
           cases kq with
           | zero => exact absurd HA.out (by simp [gimbalref03_Round.j6])
           | succ kj59 =>
            have H := HA.out
            clear HA
            simp only [gimbalref03_Round.j6] at H
            have HC63 := Aside0.mk H
            clear H
            obtain ⟨Ao64, co64, eo64⟩ := Kd.R_slice HO_13.out
            subst eo64
            go_upto_if 108 with (fail)
            go_cut [11, 13] (fun v11 v13 wc => ∃ (kq : Nat) (x11_62 : Int) (x13_62 : List Int), v11 = .int .i64 x11_62 ∧ Aside0 (gimbalref03_Round.j7 kq x9_4 x11_62 x13_62 x20_59 = some (r1, r2)) ∧ Aside0 (kq ≤ kj59) ∧ Aside0 (Kd.R (Kd.int .i64) 3 wc w.heap.size (fun _ => True) v13 x13_62) ∧ Aside0 (wc.heap[gb511]? = some (.cells #[.int .u64 0, .int .i64 0] 74 (0, 0))) ∧ Aside0 (Below w.heap.size w wc))
            case first =>
             have H := HC63.out
             clear HC63
             by_cases c65 : (x13_23.length : Int) = 54
             ·
              rw [if_pos c65] at H
              have c65b0 : ((x13_23.length : Int) == 54) = true := beq_iff_eq.mpr c65
              have c65b1 : ((x13_23.length : Int) != 54) = false := bne_eq_false_iff_eq.mpr c65
              clear c65
              (first | rw [c65b0] | (simp only [i64_w, i32_w]; rw [c65b0]) | skip)
              obtain ⟨⟨t551, t552⟩, A660, H⟩ := Option.bind_eq_some_iff.mp H
              (try dsimp -simprocs only at H)
              have A66 := Aside0.mk A660
              clear A660
              have H' := Aside0.mk H
              clear H
              go_wp2_with (first | ((with_reducible refine gate_callee (f := 70) rfl ?_); refine goesL_ (some 111) rfl rfl Tryd.func70 (by kernel_rfl) rfl #[.slice Ao64 x13_23.length co64, .int .i64 1] rfl ga ?_; (with_reducible refine (gimbalref02_Down.calls kj59 _ _ x13_23 1 t551 t552 _ ?side1 ?side2 A66.out).mono ?_); (case side1 => exact ks HO_13); (case side2 => exact (Kd.R_reads' HO_13.out).2.1); rintro e w67 ⟨v553, rfl, ho0, hb⟩; refine ⟨_, rfl, ?_⟩; refine ax4 (Kd.R_elder' (kr HO_13) (Kd.R_base ho0) hb) (Kd.R_lower (Kd.R_new' ho0 (Kd.R_lt (kr HO_13))) (below_size bes)) (bb BK511 hb) (below_step bes hb) ?_; clear HO_13; clear BK511; clear HB; intro HO_13 HO554 BK511 HB; (try clear hb); (try clear ho0)))
              go_meet
              case rel => exact ⟨_, (wrap64 (x11_20 + 1)), (t551), (by first | rfl | (simp; done) | (simp [*]; done)), H', ⟨by have := HJ4.out; have := HJ8.out; have := HJ20.out; have := HJ23.out; have := HJ59.out; first | omega | exact Nat.le_refl _⟩, ⟨by (with_reducible repeat (first | apply Kd.R_alloc | apply Kd.R_drewN | apply Kd.R_drew)); exact Kd.R_mono HO554.out (fun _ hk => trivial)⟩, ⟨kb BK511⟩, ⟨bes⟩⟩
             ·
              rw [if_neg c65] at H
              have c65b0 : ((x13_23.length : Int) == 54) = false := beq_eq_false_iff_ne.mpr c65
              have c65b1 : ((x13_23.length : Int) != 54) = true := bne_iff_ne.mpr c65
              (first | rw [c65b0] | (simp only [i64_w, i32_w]; rw [c65b0]) | skip)
              have H' := Aside0.mk H
              clear H
              go_wp2
              go_meet
              case rel => exact ⟨_, (x11_20), (x13_23), (by first | rfl | (simp; done) | (simp [*]; done)), H', ⟨by have := HJ4.out; have := HJ8.out; have := HJ20.out; have := HJ23.out; have := HJ59.out; first | omega | exact Nat.le_refl _⟩, ⟨kr HO_13⟩, ⟨kb BK511⟩, ⟨bes⟩⟩
            case rest =>
             clear HC63
             try clear c1
             try clear c2
             try clear p2
             try clear c4
             try clear c5
             try clear p5
             try clear q5
             try clear hx5
             try clear qi5
             try clear c6
             try clear p6
             try clear c7
             try clear c11
             try clear c18
             try clear c18b0
             try clear c18b1
             try clear c18b2
             try clear c23
             try clear c23b0
             try clear c25
             try clear c25b0
             try clear c46
             try clear c47
             try clear c47b0
             try clear c47b1
             try clear c48
             try clear c48b0
             try clear c48b1
             try clear c49
             try clear c50
             try clear c50b0
             try clear c51
             try clear c51b0
             try clear c51b1
             try clear c52
             try clear p54
             try clear q54
             try clear hx54
             try clear qi54
             try clear c61
             try clear c62
             try clear p64
             try clear c65
             try clear c65b0
             try clear c65b1
             try clear hcz20_0
             try clear hcz20_1
             try clear hfz20_0
             try clear hfz20_1
             try clear hx541_0
             try clear p2
             try clear p5
             try clear p54
             try clear p541
             try clear p6
             try clear q5
             try clear q54
             try clear q541
             obtain ⟨kq, x11_62, x13_62, rfl, HA, HJ62, HO_13, BK511, HB⟩ := hcut
             cases kq with
             | zero => exact absurd HA.out (by simp [gimbalref03_Round.j7])
             | succ kj62 =>
              have H := HA.out
              clear HA
              simp only [gimbalref03_Round.j7] at H
              obtain ⟨t555, A680, H⟩ := Option.bind_eq_some_iff.mp H
              (try dsimp -simprocs only at H)
              have A68 := Aside0.mk A680
              clear A680
              by_cases c69 : (x13_62.length : Int) < 53
              ·
               rw [if_pos c69] at H
               have c69b0 : decide ((x13_62.length : Int) < 53) = true := decide_eq_true c69
               have c69b1 : decide (x13_62.length < 53) = true := decide_eq_true (by omega)
               clear c69
               simp only [Option.some.injEq, Prod.mk.injEq] at H
               obtain ⟨rfl, rfl⟩ := H
               obtain ⟨Ao70, co70, eo70⟩ := Kd.R_slice HO_13.out
               subst eo70
               go_wp2_with (first | ((with_reducible refine gate_callee (f := 71) rfl ?_); refine goesL_ (some 117) rfl rfl Tryd.func71 (by kernel_rfl) rfl #[.slice Ao70 x13_62.length co70] rfl ga ?_; (with_reducible refine (gimbalref02_Num.calls kj62 _ _ x13_62 t555 _ ?side1 ?side2 A68.out).mono ?_); (case side1 => exact ks HO_13); (case side2 => exact (Kd.R_reads' HO_13.out).2.1); rintro e w71 ⟨rfl, hb⟩; refine ⟨_, rfl, ?_⟩; refine ax3 (Kd.R_below (kr HO_13) hb) (bb BK511 hb) (below_step bes hb) ?_; clear HO_13; clear BK511; clear HB; intro HO_13 BK511 HB; (try clear hb); have hcz72_0 := bc BK511 0 rfl; have hcz72_1 := bc BK511 1 rfl; have hfz72_0 := blk_frozen BK511.out 0; have hfz72_1 := blk_frozen BK511.out 1))
               refine bodyPost_ret (results_cell_row rfl _ _ gb511 74 #[.int .u64 (IntKind.u64.wrap (x9_4 + t555)), .int .i64 x20_59] (0, 0) _ rfl (by (with_reducible repeat (first | refine blk_drewN ?_ _ | refine blk_drew ?_ | refine blk_alloc ?_ _)); refine blk_put (cs := #[.int .u64 (IntKind.u64.wrap (x9_4 + t555)), .int .i64 0]) ?_ 1 _ rfl; (with_reducible repeat (first | refine blk_drewN ?_ _ | refine blk_drew ?_ | refine blk_alloc ?_ _)); refine blk_put (cs := #[.int .u64 0, .int .i64 0]) ?_ 0 _ rfl; (with_reducible repeat (first | refine blk_drewN ?_ _ | refine blk_drew ?_ | refine blk_alloc ?_ _)); exact BK511.out) Tryd.underlying74 rfl (by kernel_rfl)) rfl ?_
               exact ⟨er, bes⟩
              ·
               rw [if_neg c69] at H
               have c69b0 : decide ((x13_62.length : Int) < 53) = false := decide_eq_false c69
               have c69b1 : decide (x13_62.length < 53) = false := decide_eq_false (by omega)
               clear c69
               by_cases c73 : (wrap64 (x11_62 + 1075)) ≥ 2047
               ·
                rw [if_pos c73] at H
                have c73b0 : decide (2047 ≤ (wrap64 (x11_62 + 1075))) = true := decide_eq_true c73
                clear c73
                simp only [Option.some.injEq, Prod.mk.injEq] at H
                obtain ⟨rfl, rfl⟩ := H
                obtain ⟨Ao74, co74, eo74⟩ := Kd.R_slice HO_13.out
                subst eo74
                go_wp2_with (first | ((with_reducible refine gate_callee (f := 71) rfl ?_); refine goesL_ (some 117) rfl rfl Tryd.func71 (by kernel_rfl) rfl #[.slice Ao74 x13_62.length co74] rfl ga ?_; (with_reducible refine (gimbalref02_Num.calls kj62 _ _ x13_62 t555 _ ?side1 ?side2 A68.out).mono ?_); (case side1 => exact ks HO_13); (case side2 => exact (Kd.R_reads' HO_13.out).2.1); rintro e w75 ⟨rfl, hb⟩; refine ⟨_, rfl, ?_⟩; refine ax3 (Kd.R_below (kr HO_13) hb) (bb BK511 hb) (below_step bes hb) ?_; clear HO_13; clear BK511; clear HB; intro HO_13 BK511 HB; (try clear hb); have hcz76_0 := bc BK511 0 rfl; have hcz76_1 := bc BK511 1 rfl; have hfz76_0 := blk_frozen BK511.out 0; have hfz76_1 := blk_frozen BK511.out 1))
                refine bodyPost_ret (results_cell_row rfl _ _ gb511 74 #[.int .u64 (IntKind.u64.wrap (x9_4 + 9218868437227405312)), .int .i64 (Go.bits .or .i64 (wrap64 ((wrap64 (Int.tdiv x20_59 2)) * 2)) 5)] (0, 0) _ rfl (by (with_reducible repeat (first | refine blk_drewN ?_ _ | refine blk_drew ?_ | refine blk_alloc ?_ _)); refine blk_put (cs := #[.int .u64 (IntKind.u64.wrap (x9_4 + 9218868437227405312)), .int .i64 0]) ?_ 1 _ rfl; (with_reducible repeat (first | refine blk_drewN ?_ _ | refine blk_drew ?_ | refine blk_alloc ?_ _)); refine blk_put (cs := #[.int .u64 0, .int .i64 0]) ?_ 0 _ rfl; (with_reducible repeat (first | refine blk_drewN ?_ _ | refine blk_drew ?_ | refine blk_alloc ?_ _)); exact BK511.out) Tryd.underlying74 rfl (by kernel_rfl)) rfl ?_
                exact ⟨er, bes⟩
               ·
                rw [if_neg c73] at H
                have c73b0 : decide (2047 ≤ (wrap64 (x11_62 + 1075))) = false := decide_eq_false c73
                clear c73
                simp only [Option.some.injEq, Prod.mk.injEq] at H
                obtain ⟨rfl, rfl⟩ := H
                obtain ⟨Ao77, co77, eo77⟩ := Kd.R_slice HO_13.out
                subst eo77
                go_wp2_with (first | ((with_reducible refine gate_callee (f := 71) rfl ?_); refine goesL_ (some 117) rfl rfl Tryd.func71 (by kernel_rfl) rfl #[.slice Ao77 x13_62.length co77] rfl ga ?_; (with_reducible refine (gimbalref02_Num.calls kj62 _ _ x13_62 t555 _ ?side1 ?side2 A68.out).mono ?_); (case side1 => exact ks HO_13); (case side2 => exact (Kd.R_reads' HO_13.out).2.1); rintro e w78 ⟨rfl, hb⟩; refine ⟨_, rfl, ?_⟩; refine ax3 (Kd.R_below (kr HO_13) hb) (bb BK511 hb) (below_step bes hb) ?_; clear HO_13; clear BK511; clear HB; intro HO_13 BK511 HB; (try clear hb); have hcz79_0 := bc BK511 0 rfl; have hcz79_1 := bc BK511 1 rfl; have hfz79_0 := blk_frozen BK511.out 0; have hfz79_1 := blk_frozen BK511.out 1))
                refine bodyPost_ret (results_cell_row rfl _ _ gb511 74 #[.int .u64 (IntKind.u64.wrap ((IntKind.u64.wrap ((IntKind.u64.wrap (x9_4 + (IntKind.u64.wrap ((IntKind.u64.wrap (wrap64 (x11_62 + 1075))) * 4503599627370496)))) + t555)) - 4503599627370496)), .int .i64 x20_59] (0, 0) _ rfl (by (with_reducible repeat (first | refine blk_drewN ?_ _ | refine blk_drew ?_ | refine blk_alloc ?_ _)); refine blk_put (cs := #[.int .u64 (IntKind.u64.wrap ((IntKind.u64.wrap ((IntKind.u64.wrap (x9_4 + (IntKind.u64.wrap ((IntKind.u64.wrap (wrap64 (x11_62 + 1075))) * 4503599627370496)))) + t555)) - 4503599627370496)), .int .i64 0]) ?_ 1 _ rfl; (with_reducible repeat (first | refine blk_drewN ?_ _ | refine blk_drew ?_ | refine blk_alloc ?_ _)); refine blk_put (cs := #[.int .u64 0, .int .i64 0]) ?_ 0 _ rfl; (with_reducible repeat (first | refine blk_drewN ?_ _ | refine blk_drew ?_ | refine blk_alloc ?_ _)); exact BK511.out) Tryd.underlying74 rfl (by kernel_rfl)) rfl ?_
                exact ⟨er, bes⟩

end Go.Proofs.YtakegikedpcilaaDoor.F
