-- Written by a program of this seat's session (mkprint), out of the translation.
import Derived.Test.YtnjobojkoaknpaaDoorShort
import Derived.Test.YtnjobojkoaknpaaDoorFx0
import Derived.Test.YtnjobojkoaknpaaDoorFx2
import Derived.Test.YtnjobojkoaknpaaDoorFx5
import Derived.Test.YtnjobojkoaknpaaDoorFx6
import Derived.Test.YtnjobojkoaknpaaDoorFx7
namespace Go.Proofs.YtnjobojkoaknpaaDoor.F
open Go.RowKit Go.Proofs.YtnjobojkoaknpaaDoorW.PrintWords Go.Proofs.YtnjobojkoaknpaaDoorW.PrintLast Go.Proofs.YtnjobojkoaknpaaDoorW.PrintMore
attribute [local go_sem] uh uf vv vw qw qp tu ui   -- for this text's walks alone
set_option linter.unusedVariables false
set_option linter.unusedSimpArgs false

attribute [local go_sem] sel_run75
/-! ### au: function 12 -/
mutual
def au.j0 : Nat → Bool → Bool → List Int → Bool → Int → Int → Int → Int → List Int → Option (List Int × Int × Int)
 | 0, _, _, _, _, _, _, _, _, _ => none
 | k + 1, x2, x3, x4, x36, x1000, x294000, x294001, x294002, x294003 => if x36 = true then (some (([] : List Int), 4, x1000)) else (au.l0 k x2 x3 x4 (x4.length : Int) (x4.length : Int) 0 x1000 x294000 x294001 x294002 x294003)
def au.l0 : Nat → Bool → Bool → List Int → Int → Int → Int → Int → Int → Int → Int → List Int → Option (List Int × Int × Int)
 | 0, _, _, _, _, _, _, _, _, _, _, _ => none
 | k + 1, x2, x3, x4, x12, x39, x40, x1000, x294000, x294001, x294002, x294003 => if x40 < x39 then (if x3 = true then (au.l0 k x2 x3 x4 x12 x39 (wrap64 (x40 + 1)) x1000 x294000 x294001 x294002 x294003) else ((je.f x294000 x294001 x294002 x294003 x40 x40).bind fun t295 => ((dw.f k t295).bind fun t296 => (if t296 = 1 then (some (([] : List Int), 7, x1000)) else (au.l0 k x2 x3 x4 x12 x39 (wrap64 (x40 + 1)) x1000 x294000 x294001 x294002 x294003))))) else (if ([] : List Int).length + x4.length < 17592186044416 then (au.l1 k x2 x3 x12 (([] : List Int) ++ x4) x12 0 x1000 x294000 x294001 x294002 x294003) else (none))
def au.l1 : Nat → Bool → Bool → Int → List Int → Int → Int → Int → Int → Int → Int → List Int → Option (List Int × Int × Int)
 | 0, _, _, _, _, _, _, _, _, _, _, _ => none
 | k + 1, x2, x3, x12, x14, x56, x57, x1000, x294000, x294001, x294002, x294003 => if x57 < x56 then (if x2 = true then (au.j3 k x2 x3 x12 x14 (wrap64 ((wrap64 (x12 - 1)) - x57)) x56 x57 x1000 x294000 x294001 x294002 x294003) else (au.j3 k x2 x3 x12 x14 x57 x56 x57 x1000 x294000 x294001 x294002 x294003)) else (some (x14, 0, x1000))
def au.j3 : Nat → Bool → Bool → Int → List Int → Int → Int → Int → Int → Int → Int → Int → List Int → Option (List Int × Int × Int)
 | 0, _, _, _, _, _, _, _, _, _, _, _, _ => none
 | k + 1, x2, x3, x12, x14, x16, x56, x57, x1000, x294000, x294001, x294002, x294003 => if x2 = true then ((zy.f x2).bind fun t300 => ((zu.f x16 x12).bind fun bt301 => (au.j4 k x2 x3 x12 x14 x16 bt301.1 bt301.2 x56 x57 x1000 x294000 x294001 x294002 x294003))) else ((zq.f x2).bind fun t303 => ((zt.f x16 x12).bind fun bt304 => (au.j4 k x2 x3 x12 x14 x16 bt304.1 bt304.2 x56 x57 x1000 x294000 x294001 x294002 x294003)))
def au.j4 : Nat → Bool → Bool → Int → List Int → Int → Int → Int → Int → Int → Int → Int → Int → Int → List Int → Option (List Int × Int × Int)
 | 0, _, _, _, _, _, _, _, _, _, _, _, _, _, _ => none
 | k + 1, x2, x3, x12, x14, x16, x17, x18, x56, x57, x1000, x294000, x294001, x294002, x294003 => au.l2 k x2 x3 x12 x14 x16 x18 x17 x56 x57 x1000 x294000 x294001 x294002 x294003
def au.l2 : Nat → Bool → Bool → Int → List Int → Int → Int → Int → Int → Int → Int → Int → Int → Int → List Int → Option (List Int × Int × Int)
 | 0, _, _, _, _, _, _, _, _, _, _, _, _, _, _ => none
 | k + 1, x2, x3, x12, x14, x16, x18, x19, x56, x57, x1000, x294000, x294001, x294002, x294003 => if x19 < x18 then (if 0 ≤ x16 then (if x16 < (x14.length : Int) then ((je.f x294000 x294001 x294002 x294003 x16 x19).bind fun t307 => (if 0 ≤ x19 then (if x19 < (x14.length : Int) then ((o7.f k x1000 t307 (rd x14 x19)).bind fun bt309 => ((oz.f k bt309.2 (rd x14 x16) bt309.1).bind fun bt311 => (au.l2 k x2 x3 x12 (x14.set (x16 : Int).toNat bt311.1) x16 x18 (wrap64 (x19 + 1)) x56 x57 bt311.2 x294000 x294001 x294002 x294003))) else (none)) else (none))) else (none)) else (none)) else (if x3 = true then (au.l1 k x2 x3 x12 x14 x56 (wrap64 (x57 + 1)) x1000 x294000 x294001 x294002 x294003) else (if 0 ≤ x16 then (if x16 < (x14.length : Int) then ((je.f x294000 x294001 x294002 x294003 x16 x16).bind fun t315 => ((o5.f k x1000 (rd x14 x16) t315).bind fun bt316 => (au.l1 k x2 x3 x12 (x14.set (x16 : Int).toNat bt316.1) x56 (wrap64 (x57 + 1)) bt316.2 x294000 x294001 x294002 x294003))) else (none)) else (none)))
end
def au.f (k : Nat) (s0_0 : Int) (a1_0 : Int) (a1_1 : Int) (a1_2 : Int) (l1_3 : List Int) (a2 : Bool) (a3 : Bool) (l4 : List Int) : Option (List Int × Int × Int) := (ay.f k a1_0 a1_1 a1_2 l1_3).bind fun t294 => (if t294 = 0 then (if a1_0 = a1_1 then (au.j0 k a2 a3 l4 (a1_1 != (l4.length : Int)) s0_0 a1_0 a1_1 a1_2 l1_3) else (au.j0 k a2 a3 l4 true s0_0 a1_0 a1_1 a1_2 l1_3)) else (au.j0 k a2 a3 l4 true s0_0 a1_0 a1_1 a1_2 l1_3))
theorem au.jm : ∀ k, (∀ y0 y1 y2 y3 y4 y5 y6 y7 y8, LeO (au.j0 k y0 y1 y2 y3 y4 y5 y6 y7 y8) (au.j0 (k + 1) y0 y1 y2 y3 y4 y5 y6 y7 y8)) ∧ (∀ y0 y1 y2 y3 y4 y5 y6 y7 y8 y9 y10, LeO (au.l0 k y0 y1 y2 y3 y4 y5 y6 y7 y8 y9 y10) (au.l0 (k + 1) y0 y1 y2 y3 y4 y5 y6 y7 y8 y9 y10)) ∧ (∀ y0 y1 y2 y3 y4 y5 y6 y7 y8 y9 y10, LeO (au.l1 k y0 y1 y2 y3 y4 y5 y6 y7 y8 y9 y10) (au.l1 (k + 1) y0 y1 y2 y3 y4 y5 y6 y7 y8 y9 y10)) ∧ (∀ y0 y1 y2 y3 y4 y5 y6 y7 y8 y9 y10 y11, LeO (au.j3 k y0 y1 y2 y3 y4 y5 y6 y7 y8 y9 y10 y11) (au.j3 (k + 1) y0 y1 y2 y3 y4 y5 y6 y7 y8 y9 y10 y11)) ∧ (∀ y0 y1 y2 y3 y4 y5 y6 y7 y8 y9 y10 y11 y12 y13, LeO (au.j4 k y0 y1 y2 y3 y4 y5 y6 y7 y8 y9 y10 y11 y12 y13) (au.j4 (k + 1) y0 y1 y2 y3 y4 y5 y6 y7 y8 y9 y10 y11 y12 y13)) ∧ (∀ y0 y1 y2 y3 y4 y5 y6 y7 y8 y9 y10 y11 y12 y13, LeO (au.l2 k y0 y1 y2 y3 y4 y5 y6 y7 y8 y9 y10 y11 y12 y13) (au.l2 (k + 1) y0 y1 y2 y3 y4 y5 y6 y7 y8 y9 y10 y11 y12 y13))
 | 0 => ⟨fun _ _ _ _ _ _ _ _ _ r h => by simp [au.j0] at h, fun _ _ _ _ _ _ _ _ _ _ _ r h => by simp [au.l0] at h, fun _ _ _ _ _ _ _ _ _ _ _ r h => by simp [au.l1] at h, fun _ _ _ _ _ _ _ _ _ _ _ _ r h => by simp [au.j3] at h, fun _ _ _ _ _ _ _ _ _ _ _ _ _ _ r h => by simp [au.j4] at h, fun _ _ _ _ _ _ _ _ _ _ _ _ _ _ r h => by simp [au.l2] at h⟩
 | k + 1 => by
  obtain ⟨ih0, ih1, ih2, ih3, ih4, ih5⟩ := au.jm k
  refine ⟨?_, ?_, ?_, ?_, ?_, ?_⟩ <;> intros <;> (first | unfold au.j0 | unfold au.l0 | unfold au.l1 | unfold au.j3 | unfold au.j4 | unfold au.l2) <;>
   repeat' with_reducible first | apply ih0 | apply ih1 | apply ih2 | apply ih3 | apply ih4 | apply ih5 | apply ay.mono | apply o5.mono | apply o7.mono | apply oz.mono | apply dw.mono | exact LeO.refl _ | exact LeO.none _ | refine LeO.ite ?_ ?_ | refine LeO.bind ?_ (fun _ => ?_)
theorem au.mono : ∀ a0 a1 a2 a3 a4 a5 a6 a7 k, LeO (au.f k a0 a1 a2 a3 a4 a5 a6 a7) (au.f (k + 1) a0 a1 a2 a3 a4 a5 a6 a7) := by
 intro a0 a1 a2 a3 a4 a5 a6 a7 k; obtain ⟨ih0, ih1, ih2, ih3, ih4, ih5⟩ := au.jm k
 unfold au.f
 repeat' with_reducible first | apply ih0 | apply ih1 | apply ih2 | apply ih3 | apply ih4 | apply ih5 | apply ay.mono | apply o5.mono | apply o7.mono | apply oz.mono | apply dw.mono | exact LeO.refl _ | exact LeO.none _ | refine LeO.ite ?_ ?_ | refine LeO.bind ?_ (fun _ => ?_)
def au.T21 : Bool × List (List Nat × List Nat) := (true, [([], []), ([], []), ([], []), ([], []), ([], []), ([3, 4], [3, 4]), ([5], [5]), ([], []), ([], []), ([], []), ([], []), ([8, 9, 10], [8, 9, 10]), ([], []), ([], []), ([12, 13], [12, 13]), ([14], [14]), ([7, 11, 15, 11], [7, 11, 15]), ([2, 6, 16, 16], [2, 6, 16]), ([0, 1, 0, 1, 2, 3, 4, 5, 6, 7, 8, 9, 10, 11, 12, 13, 14, 15, 16, 17], [0, 1]), ([18, 17, 17, 0, 1, 2, 3, 4, 5, 6, 7, 8, 9, 10, 11, 12, 13, 14, 15, 16, 17], [17, 18])])
def au.B21 : List Nat := [0, 0, 0, 0, 0, 24, 56, 0, 0, 0, 0, 1792, 0, 0, 12288, 28672, 65408, 131068, 262143, 524287]
theorem au.tab21 : xe .any (opsOf Tryd.f12 21) = au.T21 := by kernel_rfl
theorem au.bits21 : r9 au.T21.2 au.B21 = true := by kernel_rfl
def au.T23 : Bool × List (List Nat × List Nat) := (true, [([], []), ([], []), ([], []), ([], []), ([], []), ([3, 4], [3, 4]), ([5], [5]), ([], []), ([], []), ([], []), ([7, 8, 9], [7, 8, 9]), ([2, 6, 10, 10], [2, 6, 10]), ([0, 1, 0, 1, 2, 3, 4, 5, 6, 7, 8, 9, 10, 11], [0, 1]), ([12, 11, 11, 0, 1, 2, 3, 4, 5, 6, 7, 8, 9, 10, 11], [11, 12])])
def au.B23 : List Nat := [0, 0, 0, 0, 0, 24, 56, 0, 0, 0, 896, 2044, 4095, 8191]
theorem au.tab23 : xe .any (opsOf Tryd.f12 23) = au.T23 := by kernel_rfl
theorem au.bits23 : r9 au.T23.2 au.B23 = true := by kernel_rfl
set_option maxHeartbeats 8000000 in
set_option maxRecDepth 100000 in
theorem au.calls (k : Nat) (g : Nat) (s0_0 : Int) (a1_0 : Int) (a1_1 : Int) (a1_2 : Int) (A1_3 : Option Addr) (c1_3 : Nat) (l1_3 : List Int) (a2 : Bool) (a3 : Bool) (A4 : Option Addr) (c4 : Nat) (l4 : List Int) (r1 : List Int) (r2 : Int) (r3 : Int) (w0 w : World) (hI : di w0 w g s0_0) (hB : Below w0.heap.size w0 w) (hr1_3 : Kd.C (Kd.int .u64) w A1_3 l1_3.length l1_3) (hc1_3 : l1_3.length ≤ c1_3) (hf1_3 : ∀ ad, A1_3 = some ad → 0 < l1_3.length → ad.block ≠ g) (hr4 : Kd.C (Kd.int .u64) w A4 l4.length l4) (hc4 : l4.length ≤ c4) (hf4 : ∀ ad, A4 = some ad → 0 < l4.length → ad.block ≠ g) (h : au.f k s0_0 a1_0 a1_1 a1_2 l1_3 a2 a3 l4 = some (r1, r2, r3)) :
  Calls Tryd.prog 12 #[.pointer (some ⟨g, 0, none⟩), .agg #[.int .i64 a1_0, .int .i64 a1_1, .int .i64 a1_2, .slice A1_3 l1_3.length c1_3], .bool a2, .bool a3, .slice A4 l4.length c4] w fun e w' => ∃ v0_ : Value, e = .returned (.tuple #[v0_, .int .i64 r2]) ∧ Kd.R (Kd.int .u64) 24 w' w.heap.size (fun _ => True) v0_ r1 ∧ di w0 w' g r3 ∧ Below w0.heap.size w0 w' ∧ fw w w' g none := by
 have hu35 := Tryd.underlying35; have hu75 := Tryd.underlying75; have HR1_3 := aa.mk hr1_3; have HC1_3 := aa.mk hc1_3; clear hr1_3 hc1_3; have HR4 := aa.mk hr4; have HC4 := aa.mk hc4; clear hr4 hc4; have HI0 := aa.mk hI; have HK := aa.mk (fw.refl w g none); have HL := aa.mk hB.size; clear hI; have HW0 := aa.mk hB.size; have HB := aa.mk hB; clear hB; have H : ((ay.f k a1_0 a1_1 a1_2 l1_3).bind fun t294 => (if t294 = 0 then (if a1_0 = a1_1 then (au.j0 k a2 a3 l4 (a1_1 != (l4.length : Int)) s0_0 a1_0 a1_1 a1_2 l1_3) else (au.j0 k a2 a3 l4 true s0_0 a1_0 a1_1 a1_2 l1_3)) else (au.j0 k a2 a3 l4 true s0_0 a1_0 a1_1 a1_2 l1_3))) = some (r1, r2, r3) := h; clear h; have HC6 := aa.mk H; clear H; go_enter Tryd.func12, Tryd.ntmps12
 go_upto_region 1 with (first | ((with_reducible refine bq (N := 6) rfl ?_); refine l5 (N := 6) (cs := #[.int .i64 a1_0, .int .i64 a1_1, .int .i64 a1_2, .slice A1_3 l1_3.length c1_3]) (t := 35) ?_; intro gb293 hg w7 hbox hb; refine ax8 (di.below (yg HI0) hb) (fw.trans (kz HK) (fw.of_below hb g none) (.inl rfl)) (af zm hb) hbox ((by rw [hg]; exact (Fp (w := w) (g := g) (row := none) (kz HK)) : w.heap.size ≤ gb293)) ((Nat.le_trans HW0.out (by rw [hg]; exact (Fp (w := w) (g := g) (row := none) (kz HK)) : w.heap.size ≤ gb293) : w0.heap.size ≤ gb293)) ((by rw [hg]; exact Nat.ne_of_lt (di.lt (show di w0 _ g s0_0 from yg HI0)) : g ≠ gb293)) ((by rw [hg]; exact Nat.ne_of_gt (di.lt (show di w0 _ g s0_0 from yg HI0)) : gb293 ≠ g)) ?_; clear HI0; clear HK; clear HB; intro HI0 HK HB BK293 GW293 GE293 NB0_293 NB293_0; clear hb hbox hg))
 (try simp only [Act.put, sa0, sa1, sa2])
 go_cut [36] (fun v36 wc => ∃ (kq : Nat) (x36_5 : Bool), v36 = .bool x36_5 ∧ aa (au.j0 kq a2 a3 l4 x36_5 s0_0 a1_0 a1_1 a1_2 l1_3 = some (r1, r2, r3)) ∧ aa (kq ≤ k) ∧ aa (wc.heap[gb293]? = some (.cells #[.int .i64 a1_0, .int .i64 a1_1, .int .i64 a1_2, (.slice A1_3 l1_3.length c1_3)] 35 (0, 0))) ∧ aa (di w0 wc g s0_0) ∧ aa (fw w wc g none) ∧ aa (Below w0.heap.size w0 wc))
 case first =>
  have H := HC6.out; clear HC6; obtain ⟨t294, A8, H⟩ := ob H; (try dsimp -simprocs only at H)
  by_cases c9 : t294 = 0
  ·
   rw [if_pos c9] at H; have c9b0 := beq_iff_eq.mpr c9; have c9b1 := bne_eq_false_iff_eq.mpr c9; clear c9
   (first | rw [c9b0] | (simp only [jw, l8]; rw [c9b0]) | skip)
   by_cases c10 : a1_0 = a1_1
   ·
    rw [if_pos c10] at H; have c10b0 := beq_iff_eq.mpr c10; have c10b1 := bne_eq_false_iff_eq.mpr c10; clear c10; have H' := aa.mk H; clear H; have hnb11 := NB293_0.out; have hnc11 := NB0_293.out; have ⟨_, _⟩ := cf BK293 0 rfl; have ⟨_, _⟩ := cf BK293 1 rfl; have ⟨_, _⟩ := cf BK293 2 rfl; have ⟨_, _⟩ := cf BK293 3 rfl
    go_wp2_with (first | ((with_reducible refine ag (f := 36) rfl ?_); refine df (some 21) rfl rfl Tryd.func36 (by kernel_rfl) rfl #[.agg #[.int .i64 a1_0, .int .i64 a1_1, .int .i64 a1_2, .slice A1_3 l1_3.length c1_3]] rfl ga ?_; (with_reducible refine (ay.calls k a1_0 a1_1 a1_2 _ _ l1_3 t294 _ ?side1 ?side2 A8.out).mono ?_); (case side1 => exact Kd.Di 0 HR1_3.out (ky HK) hf1_3); (case side2 => exact HC1_3.out); rintro e w13 ⟨rfl, hb⟩; refine ⟨_, rfl, ?_⟩; refine ax4 (di.below (yg HI0) hb) (bb BK293 hb) (fw.trans (ky HK) (fw.of_below hb g none) (.inl rfl)) (af zm hb) ?_; clear HI0; clear BK293; clear HK; clear HB; intro HI0 BK293 HK HB; (try clear hb); have ⟨_, _⟩ := cf BK293 0 rfl; have ⟨_, _⟩ := cf BK293 1 rfl; have ⟨_, _⟩ := cf BK293 2 rfl; have ⟨_, _⟩ := cf BK293 3 rfl))
    go_meet
    case rel => exact ⟨_, ((a1_1 != (l4.length : Int))), (by first | rfl | (simp; done) | (simp [*]; done)), H', ⟨by first | omega | exact Nat.le_refl _⟩, ⟨kb BK293⟩, ⟨yg HI0⟩, ⟨ky HK⟩, ⟨zm⟩⟩
   ·
    rw [if_neg c10] at H; have c10b0 := beq_eq_false_iff_ne.mpr c10; have c10b1 := bne_iff_ne.mpr c10; have H' := aa.mk H; clear H; have hnb15 := NB293_0.out; have hnc15 := NB0_293.out; have ⟨_, _⟩ := cf BK293 0 rfl; have ⟨_, _⟩ := cf BK293 1 rfl; have ⟨_, _⟩ := cf BK293 2 rfl; have ⟨_, _⟩ := cf BK293 3 rfl
    go_wp2_with (first | ((with_reducible refine ag (f := 36) rfl ?_); refine df (some 21) rfl rfl Tryd.func36 (by kernel_rfl) rfl #[.agg #[.int .i64 a1_0, .int .i64 a1_1, .int .i64 a1_2, .slice A1_3 l1_3.length c1_3]] rfl ga ?_; (with_reducible refine (ay.calls k a1_0 a1_1 a1_2 _ _ l1_3 t294 _ ?side1 ?side2 A8.out).mono ?_); (case side1 => exact Kd.Di 0 HR1_3.out (ky HK) hf1_3); (case side2 => exact HC1_3.out); rintro e w17 ⟨rfl, hb⟩; refine ⟨_, rfl, ?_⟩; refine ax4 (di.below (yg HI0) hb) (bb BK293 hb) (fw.trans (ky HK) (fw.of_below hb g none) (.inl rfl)) (af zm hb) ?_; clear HI0; clear BK293; clear HK; clear HB; intro HI0 BK293 HK HB; (try clear hb); have ⟨_, _⟩ := cf BK293 0 rfl; have ⟨_, _⟩ := cf BK293 1 rfl; have ⟨_, _⟩ := cf BK293 2 rfl; have ⟨_, _⟩ := cf BK293 3 rfl))
    go_meet
    case rel => exact ⟨_, (true), (by first | rfl | (simp; done) | (simp [*]; done)), H', ⟨by first | omega | exact Nat.le_refl _⟩, ⟨kb BK293⟩, ⟨yg HI0⟩, ⟨ky HK⟩, ⟨zm⟩⟩
  ·
   rw [if_neg c9] at H; have c9b0 := beq_eq_false_iff_ne.mpr c9; have c9b1 := bne_iff_ne.mpr c9
   (first | rw [c9b0] | (simp only [jw, l8]; rw [c9b0]) | skip)
   have H' := aa.mk H; clear H; have hnb19 := NB293_0.out; have hnc19 := NB0_293.out; have ⟨_, _⟩ := cf BK293 0 rfl; have ⟨_, _⟩ := cf BK293 1 rfl; have ⟨_, _⟩ := cf BK293 2 rfl; have ⟨_, _⟩ := cf BK293 3 rfl
   go_wp2_with (first | ((with_reducible refine ag (f := 36) rfl ?_); refine df (some 21) rfl rfl Tryd.func36 (by kernel_rfl) rfl #[.agg #[.int .i64 a1_0, .int .i64 a1_1, .int .i64 a1_2, .slice A1_3 l1_3.length c1_3]] rfl ga ?_; (with_reducible refine (ay.calls k a1_0 a1_1 a1_2 _ _ l1_3 t294 _ ?side1 ?side2 A8.out).mono ?_); (case side1 => exact Kd.Di 0 HR1_3.out (ky HK) hf1_3); (case side2 => exact HC1_3.out); rintro e w21 ⟨rfl, hb⟩; refine ⟨_, rfl, ?_⟩; refine ax4 (di.below (yg HI0) hb) (bb BK293 hb) (fw.trans (ky HK) (fw.of_below hb g none) (.inl rfl)) (af zm hb) ?_; clear HI0; clear BK293; clear HK; clear HB; intro HI0 BK293 HK HB; (try clear hb)))
   go_meet
   case rel => exact ⟨_, (true), (by first | rfl | (simp; done) | (simp [*]; done)), H', ⟨by first | omega | exact Nat.le_refl _⟩, ⟨kb BK293⟩, ⟨yg HI0⟩, ⟨ky HK⟩, ⟨zm⟩⟩
 case rest =>
  clear HC6
  obtain ⟨kq, x36_5, rfl, HA, HJ5, BK293, HI0, HK, HB⟩ := hcut; cases kq with
  | zero => exact absurd HA.out (by simp [au.j0])
  | succ kj5 =>
   have H := HA.out; clear HA; simp only [au.j0] at H
   by_cases c22 : x36_5 = true
   ·
    subst c22; rw [if_pos rfl] at H; simp only [Option.some.injEq, Prod.mk.injEq] at H; obtain ⟨rfl, rfl, rfl⟩ := H; go_wp2
    go_ret2
    exact ⟨_, er, by first | exact Kd.Cg _ _ _ _ _ | exact Kd.N_nil _ _ _ _ _ | exact Kd.Cy _ _ _ _ _ | exact Kd.Q_nil _ _ _ _ _ | exact Kd.S_nil _ _ _ _ _, by repeat (first | (with_reducible first | exact HI0.out | apply di.alloc | apply di.drewN | apply di.drew | apply di.Bb | refine di.far ?_ NB0_293.out _) | exact HI0.out), by repeat (first | (with_reducible first | exact HB.out | apply ji | apply iy | apply gy | refine jl ?_ (di.ge HI0.out) | refine jl ?_ GE293.out) | exact HB.out), by repeat (first | (with_reducible first | exact HK.out | apply fw.set_ | apply xy | apply xh | apply xu | refine E5 ?_ GW293.out _) | exact HK.out)⟩
   ·
    replace c22 := Bool.eq_false_iff.mpr c22; subst c22; rw [if_neg (show ¬ (false = true) by decide)] at H; have H' := aa.mk H; clear H; go_wp2
    go_loopg [40] kj5 (fun kq v40 w' => ∃ (x40_2 : Int), v40 = .int .i64 x40_2 ∧ aa (au.l0 kq a2 a3 l4 (l4.length : Int) (l4.length : Int) x40_2 s0_0 a1_0 a1_1 a1_2 l1_3 = some (r1, r2, r3)) ∧ aa (kq ≤ kj5) ∧ aa (w'.heap[gb293]? = some (.cells #[.int .i64 a1_0, .int .i64 a1_1, .int .i64 a1_2, (.slice A1_3 l1_3.length c1_3)] 35 (0, 0))) ∧ aa (di w0 w' g s0_0) ∧ aa (fw w w' g none) ∧ aa (Below w0.heap.size w0 w'))
    case atStart => exact ⟨(0), (by first | rfl | (simp; done) | (simp [*]; done)), H', ⟨Nat.le_refl _⟩, ⟨kb BK293⟩, ⟨yg HI0⟩, ⟨ky HK⟩, ⟨zm⟩⟩
    case round =>
     clear H'
     obtain ⟨x40_2, rfl, HA, HK2, BK293, HI0, HK, HB⟩ := hrel; cases gk with
     | zero => exact absurd HA.out (by simp [au.l0])
     | succ k2 =>
      have H := HA.out; clear HA; simp only [au.l0] at H
      by_cases c23 : x40_2 < (l4.length : Int)
      ·
       rw [if_pos c23] at H; have c23b0 := decide_eq_true c23; clear c23
       by_cases c24 : a3 = true
       ·
        subst c24; rw [if_pos rfl] at H; have H' := aa.mk H; clear H; go_wp2
        go_roundg k2
        case measure => have := HJ5.out; have := HK2.out; omega
        case rel => exact ⟨(wrap64 (x40_2 + 1)), (by first | rfl | (simp; done) | (simp [*]; done)), H', ⟨by have := HJ5.out; have := HK2.out; omega⟩, ⟨kb BK293⟩, ⟨yg HI0⟩, ⟨ky HK⟩, ⟨zm⟩⟩
       ·
        replace c24 := Bool.eq_false_iff.mpr c24; subst c24; rw [if_neg (show ¬ (false = true) by decide)] at H; obtain ⟨t295, A25, H⟩ := ob H; (try dsimp -simprocs only at H); obtain ⟨t296, A26, H⟩ := ob H; (try dsimp -simprocs only at H)
        by_cases c27 : t296 = 1
        ·
         rw [if_pos c27] at H; have c27b0 := beq_iff_eq.mpr c27; have c27b1 := bne_eq_false_iff_eq.mpr c27; clear c27; simp only [Option.some.injEq, Prod.mk.injEq] at H; obtain ⟨rfl, rfl, rfl⟩ := H; have hnb28 := NB293_0.out; have hnc28 := NB0_293.out; have ⟨_, _⟩ := cf BK293 0 rfl; have ⟨_, _⟩ := cf BK293 1 rfl; have ⟨_, _⟩ := cf BK293 2 rfl; have ⟨_, _⟩ := cf BK293 3 rfl
         go_wp2_with (first | (go_at_call 19; (with_reducible refine (je.calls a1_0 a1_1 a1_2 _ _ l1_3 x40_2 x40_2 t295 _ ?side1 ?side2 A25.out).mono ?_); (case side1 => exact Kd.Di 0 HR1_3.out (ky HK) hf1_3); (case side2 => exact HC1_3.out); rintro e w30 ⟨rfl, hb⟩; refine ax4 (bb BK293 hb) (di.below (yg HI0) hb) (fw.trans (ky HK) (fw.of_below hb g none) (.inl rfl)) (af zm hb) ?_; clear BK293; clear HI0; clear HK; clear HB; intro BK293 HI0 HK HB; (try clear hb)) | (go_at_call 40; (with_reducible refine (dw.calls k2 t295 t296 _ A26.out).mono ?_); rintro e w' ⟨rfl, ⟨nd, rfl⟩⟩))
         go_ret2
         exact ⟨_, er, by first | exact Kd.Cg _ _ _ _ _ | exact Kd.N_nil _ _ _ _ _ | exact Kd.Cy _ _ _ _ _ | exact Kd.Q_nil _ _ _ _ _ | exact Kd.S_nil _ _ _ _ _, by repeat (first | (with_reducible first | exact HI0.out | apply di.alloc | apply di.drewN | apply di.drew | apply di.Bb | refine di.far ?_ NB0_293.out _) | exact HI0.out), by repeat (first | (with_reducible first | exact HB.out | apply ji | apply iy | apply gy | refine jl ?_ (di.ge HI0.out) | refine jl ?_ GE293.out) | exact HB.out), by repeat (first | (with_reducible first | exact HK.out | apply fw.set_ | apply xy | apply xh | apply xu | refine E5 ?_ GW293.out _) | exact HK.out)⟩
        ·
         rw [if_neg c27] at H; have c27b0 := beq_eq_false_iff_ne.mpr c27; have c27b1 := bne_iff_ne.mpr c27; have H' := aa.mk H; clear H; have hnb31 := NB293_0.out; have hnc31 := NB0_293.out; have ⟨_, _⟩ := cf BK293 0 rfl; have ⟨_, _⟩ := cf BK293 1 rfl; have ⟨_, _⟩ := cf BK293 2 rfl; have ⟨_, _⟩ := cf BK293 3 rfl
         go_wp2_with (first | (go_at_call 19; (with_reducible refine (je.calls a1_0 a1_1 a1_2 _ _ l1_3 x40_2 x40_2 t295 _ ?side1 ?side2 A25.out).mono ?_); (case side1 => exact Kd.Di 0 HR1_3.out (ky HK) hf1_3); (case side2 => exact HC1_3.out); rintro e w33 ⟨rfl, hb⟩; refine ax4 (bb BK293 hb) (di.below (yg HI0) hb) (fw.trans (ky HK) (fw.of_below hb g none) (.inl rfl)) (af zm hb) ?_; clear BK293; clear HI0; clear HK; clear HB; intro BK293 HI0 HK HB; (try clear hb)) | (go_at_call 40; (with_reducible refine (dw.calls k2 t295 t296 _ A26.out).mono ?_); rintro e w' ⟨rfl, ⟨nd, rfl⟩⟩))
         go_roundg k2
         case measure => have := HJ5.out; have := HK2.out; omega
         case rel => exact ⟨(wrap64 (x40_2 + 1)), (by first | rfl | (simp; done) | (simp [*]; done)), H', ⟨by have := HJ5.out; have := HK2.out; omega⟩, ⟨kb BK293⟩, ⟨yg HI0⟩, ⟨ky HK⟩, ⟨zm⟩⟩
      ·
       rw [if_neg c23] at H; have c23b0 := decide_eq_false c23; clear c23
       by_cases c34 : ([] : List Int).length + l4.length < 17592186044416
       rotate_left
       ·
        rw [if_neg c34] at H; exact absurd H (by simp)

       rw [if_pos c34] at H; have LMc34 := aa.mk c34; clear c34; obtain ⟨y297, hy297⟩ : ∃ y_ : List Int, y_ = (([] : List Int) ++ l4) := ⟨_, rfl⟩; replace H : (au.l1 k2 a2 a3 (l4.length : Int) y297 (l4.length : Int) 0 s0_0 a1_0 a1_1 a1_2 l1_3) = some (r1, r2, r3) := by first | (rw [hy297]; with_reducible exact H) | (have H2_ := (Option.bind_some _ _).symm.trans H; rw [hy297]; with_reducible exact H2_) | (have H2_ := (Option.bind_some _ _).symm.trans H; with_reducible exact H2_) | with_reducible exact H | (rw [hy297]; exact H) | exact H
       have Ny297 := aa.mk hy297; clear hy297; have H' := aa.mk H; clear H
       go_wp2_with (first | ((with_reducible refine sw (b := .append) (xs := #[.const (.slice none 0 0), .tmp 54]) rfl ?_); at_builtin; refine Kd.D7 (Kd.int .u64) w.heap.size rfl (.const (.slice none 0 0)) (.tmp 54) 33 24 (.int .u64 0) 8 rfl Tryd.underlying33 info24 rfl (by decide) (by omega) (.slice none 0 0) ([] : List Int) l4 _ _ _ (fun _ => True) (fun _ => False) rfl rfl ?aO ?aR (fun _ _ h => h) (fun _ h => h.elim) ?aF (Below.refl _ _) ?aS ?aL ?_; (case aR => exact Kd.Di 0 HR4.out (ky HK) hf4); (case aF => exact (fun _ _ => trivial)); (case aO => exact ((Kd.Cg _ _ _ _ (fun _ => True)))); (case aS => exact (Fp (w := w) (g := g) (row := none) (ky HK))); (case aL => have := LMc34.out; omega); intro v298 w35 ho hb hg hat; rw [← Ny297.out] at ho; refine ax5 (mi (g := gb293) (o := .cells #[.int .i64 a1_0, .int .i64 a1_1, .int .i64 a1_2, .slice A1_3 l1_3.length c1_3] 35 (0, 0)) (kb BK293) hg (by simp [Value.ownBlock])) (di.grown (yg HI0) hg (by simp [Value.ownBlock])) (below_weaken zm HL.out hb) (fw.trans (ky HK) (fw.E9 hg g) (.inl (by simp [Value.ownBlock]))) ho ?_; clear BK293; clear HI0; clear HB; clear HK; intro BK293 HI0 HB HK HO299; clear ho hb hg hat))
       go_loopg [57] k2 (fun kq v57 w' => ∃ (x14_3 : List Int) (x57_3 : Int) (x1000_3 : Int), v57 = .int .i64 x57_3 ∧ aa (au.l1 kq a2 a3 (l4.length : Int) x14_3 (l4.length : Int) x57_3 x1000_3 a1_0 a1_1 a1_2 l1_3 = some (r1, r2, r3)) ∧ aa (kq ≤ k2) ∧ aa (Kd.R (Kd.int .u64) 24 w' w.heap.size (fun _ => True) v298 x14_3) ∧ aa (w'.heap[gb293]? = some (.cells #[.int .i64 a1_0, .int .i64 a1_1, .int .i64 a1_2, (.slice A1_3 l1_3.length c1_3)] 35 (0, 0))) ∧ aa (di w0 w' g x1000_3) ∧ aa (fw w w' g none) ∧ aa (Below w0.heap.size w0 w'))
       case atStart => exact ⟨(y297), (0), (s0_0), (by first | rfl | (simp; done) | (simp [*]; done)), H', ⟨Nat.le_refl _⟩, ⟨kr HO299⟩, ⟨kb BK293⟩, ⟨yg HI0⟩, ⟨ky HK⟩, ⟨zm⟩⟩
       case round =>
        clear H'
        obtain ⟨x14_3, x57_3, x1000_3, rfl, HA, HK3, HO_14, BK293, HI0, HK, HB⟩ := hrel; cases gk with
        | zero => exact absurd HA.out (by simp [au.l1])
        | succ k3 =>
         have H := HA.out; clear HA; simp only [au.l1] at H
         by_cases c36 : x57_3 < (l4.length : Int)
         rotate_left
         ·
          rw [if_neg c36] at H; have c36b0 := decide_eq_false c36; clear c36; simp only [Option.some.injEq, Prod.mk.injEq] at H; obtain ⟨rfl, rfl, rfl⟩ := H; go_wp2
          go_ret2
          exact ⟨_, er, kr HO_14, by repeat (first | (with_reducible first | exact HI0.out | apply di.alloc | apply di.drewN | apply di.drew | apply di.Bb | refine di.far ?_ NB0_293.out _) | exact HI0.out), by repeat (first | (with_reducible first | exact HB.out | apply ji | apply iy | apply gy | refine jl ?_ (di.ge HI0.out) | refine jl ?_ GE293.out) | exact HB.out), by repeat (first | (with_reducible first | exact HK.out | apply fw.set_ | apply xy | apply xh | apply xu | refine E5 ?_ GW293.out _) | exact HK.out)⟩
         rw [if_pos c36] at H; have c36b0 := decide_eq_true c36; clear c36; have HC37 := aa.mk H; clear H
         go_upto_if 61 with (fail)
         go_cut [16] (fun v16 wc => ∃ (kq : Nat) (x16_36 : Int), v16 = .int .i64 x16_36 ∧ aa (au.j3 kq a2 a3 (l4.length : Int) x14_3 x16_36 (l4.length : Int) x57_3 x1000_3 a1_0 a1_1 a1_2 l1_3 = some (r1, r2, r3)) ∧ aa (kq ≤ k3) ∧ aa (Kd.R (Kd.int .u64) 24 wc w.heap.size (fun _ => True) v298 x14_3) ∧ aa (wc.heap[gb293]? = some (.cells #[.int .i64 a1_0, .int .i64 a1_1, .int .i64 a1_2, (.slice A1_3 l1_3.length c1_3)] 35 (0, 0))) ∧ aa (di w0 wc g x1000_3) ∧ aa (fw w wc g none) ∧ aa (Below w0.heap.size w0 wc))
         case first =>
          have H := HC37.out; clear HC37
          by_cases c38 : a2 = true
          ·
           subst c38; rw [if_pos rfl] at H; have H' := aa.mk H; clear H; go_wp2; go_meet
           case rel => exact ⟨_, (wrap64 ((wrap64 ((l4.length : Int) - 1)) - x57_3)), (by first | rfl | (simp; done) | (simp [*]; done)), H', ⟨by have := HJ5.out; have := HK2.out; have := HK3.out; first | omega | exact Nat.le_refl _⟩, ⟨kr HO_14⟩, ⟨kb BK293⟩, ⟨yg HI0⟩, ⟨ky HK⟩, ⟨zm⟩⟩
          ·
           replace c38 := Bool.eq_false_iff.mpr c38; subst c38; rw [if_neg (show ¬ (false = true) by decide)] at H; have H' := aa.mk H; clear H; go_wp2; go_meet
           case rel => exact ⟨_, (x57_3), (by first | rfl | (simp; done) | (simp [*]; done)), H', ⟨by have := HJ5.out; have := HK2.out; have := HK3.out; first | omega | exact Nat.le_refl _⟩, ⟨kr HO_14⟩, ⟨kb BK293⟩, ⟨yg HI0⟩, ⟨ky HK⟩, ⟨zm⟩⟩
         case rest =>
          clear HC37
          obtain ⟨kq, x16_36, rfl, HA, HJ36, HO_14, BK293, HI0, HK, HB⟩ := hcut; cases kq with
          | zero => exact absurd HA.out (by simp [au.j3])
          | succ kj36 =>
           have H := HA.out; clear HA; simp only [au.j3] at H; have HC39 := aa.mk H; clear H
           go_upto_region 17 with (fail)
           go_cut [17, 18] (fun v17 v18 wc => ∃ (kq : Nat) (x17_38 : Int) (x18_38 : Int), v17 = .int .i64 x17_38 ∧ v18 = .int .i64 x18_38 ∧ aa (au.j4 kq a2 a3 (l4.length : Int) x14_3 x16_36 x17_38 x18_38 (l4.length : Int) x57_3 x1000_3 a1_0 a1_1 a1_2 l1_3 = some (r1, r2, r3)) ∧ aa (kq ≤ kj36) ∧ aa (Kd.R (Kd.int .u64) 24 wc w.heap.size (fun _ => True) v298 x14_3) ∧ aa (wc.heap[gb293]? = some (.cells #[.int .i64 a1_0, .int .i64 a1_1, .int .i64 a1_2, (.slice A1_3 l1_3.length c1_3)] 35 (0, 0))) ∧ aa (di w0 wc g x1000_3) ∧ aa (fw w wc g none) ∧ aa (Below w0.heap.size w0 wc))
           case first =>
            have H := HC39.out; clear HC39
            by_cases c40 : a2 = true
            ·
             subst c40; rw [if_pos rfl] at H; obtain ⟨t300, A41, H⟩ := ob H; (try dsimp -simprocs only at H); obtain ⟨⟨t301, t302⟩, A42, H⟩ := ob H; (try dsimp -simprocs only at H); have H' := aa.mk H; clear H
             go_wp2_with (first | ((with_reducible refine ag (f := 38) rfl ?_); refine df (some 68) rfl rfl Tryd.func38 (by kernel_rfl) rfl #[.bool true] rfl ga ?_; (with_reducible refine (zy.calls true t300 _ A41.out).mono ?_); rintro e w43 ⟨rfl, hb⟩; refine ⟨_, rfl, ?_⟩; refine ax5 (Kd.cu (kr HO_14) hb) (bb BK293 hb) (di.below (yg HI0) hb) (fw.trans (ky HK) (fw.of_below hb g none) (.inl rfl)) (af zm hb) ?_; clear HO_14; clear BK293; clear HI0; clear HK; clear HB; intro HO_14 BK293 HI0 HK HB; (try clear hb)) | (go_at_call 60; (with_reducible refine (zu.calls x16_36 (l4.length : Int) t301 t302 _ A42.out).mono ?_); rintro e w' ⟨rfl, ⟨nd, rfl⟩⟩))
             go_meet
             case rel => exact ⟨_, (t301), (t302), (by first | rfl | (simp; done) | (simp [*]; done)), (by first | rfl | (simp; done) | (simp [*]; done)), H', ⟨by have := HJ5.out; have := HK2.out; have := HK3.out; have := HJ36.out; first | omega | exact Nat.le_refl _⟩, ⟨kr HO_14⟩, ⟨kb BK293⟩, ⟨yg HI0⟩, ⟨ky HK⟩, ⟨zm⟩⟩
            ·
             replace c40 := Bool.eq_false_iff.mpr c40; subst c40; rw [if_neg (show ¬ (false = true) by decide)] at H; obtain ⟨t303, A44, H⟩ := ob H; (try dsimp -simprocs only at H); obtain ⟨⟨t304, t305⟩, A45, H⟩ := ob H; (try dsimp -simprocs only at H); have H' := aa.mk H; clear H
             go_wp2_with (first | ((with_reducible refine ag (f := 38) rfl ?_); refine df (some 68) rfl rfl Tryd.func38 (by kernel_rfl) rfl #[.bool false] rfl ga ?_; (with_reducible refine (zq.calls false t303 _ A44.out).mono ?_); rintro e w46 ⟨rfl, hb⟩; refine ⟨_, rfl, ?_⟩; refine ax5 (Kd.cu (kr HO_14) hb) (bb BK293 hb) (di.below (yg HI0) hb) (fw.trans (ky HK) (fw.of_below hb g none) (.inl rfl)) (af zm hb) ?_; clear HO_14; clear BK293; clear HI0; clear HK; clear HB; intro HO_14 BK293 HI0 HK HB; (try clear hb)) | (go_at_call 61; (with_reducible refine (zt.calls x16_36 (l4.length : Int) t304 t305 _ A45.out).mono ?_); rintro e w' ⟨rfl, ⟨nd, rfl⟩⟩))
             go_meet
             case rel => exact ⟨_, (t304), (t305), (by first | rfl | (simp; done) | (simp [*]; done)), (by first | rfl | (simp; done) | (simp [*]; done)), H', ⟨by have := HJ5.out; have := HK2.out; have := HK3.out; have := HJ36.out; first | omega | exact Nat.le_refl _⟩, ⟨kr HO_14⟩, ⟨kb BK293⟩, ⟨yg HI0⟩, ⟨ky HK⟩, ⟨zm⟩⟩
           case rest =>
            clear HC39
            obtain ⟨kq, x17_38, x18_38, rfl, rfl, HA, HJ38, HO_14, BK293, HI0, HK, HB⟩ := hcut; cases kq with
            | zero => exact absurd HA.out (by simp [au.j4])
            | succ kj38 =>
             have H := HA.out; clear HA; simp only [au.j4] at H; have H' := aa.mk H; clear H; go_wp2
             go_loopg [19] kj38 (fun kq v19 w' => ∃ (x14_6 : List Int) (x19_6 : Int) (x1000_6 : Int), v19 = .int .i64 x19_6 ∧ aa (au.l2 kq a2 a3 (l4.length : Int) x14_6 x16_36 x18_38 x19_6 (l4.length : Int) x57_3 x1000_6 a1_0 a1_1 a1_2 l1_3 = some (r1, r2, r3)) ∧ aa (kq ≤ kj38) ∧ aa (Kd.R (Kd.int .u64) 24 w' w.heap.size (fun _ => True) v298 x14_6) ∧ aa (w'.heap[gb293]? = some (.cells #[.int .i64 a1_0, .int .i64 a1_1, .int .i64 a1_2, (.slice A1_3 l1_3.length c1_3)] 35 (0, 0))) ∧ aa (di w0 w' g x1000_6) ∧ aa (fw w w' g none) ∧ aa (Below w0.heap.size w0 w'))
             case atStart => exact ⟨(x14_3), (x17_38), (x1000_3), (by first | rfl | (simp; done) | (simp [*]; done)), H', ⟨Nat.le_refl _⟩, ⟨kr HO_14⟩, ⟨kb BK293⟩, ⟨yg HI0⟩, ⟨ky HK⟩, ⟨zm⟩⟩
             case round =>
              clear H'
              obtain ⟨x14_6, x19_6, x1000_6, rfl, HA, HK6, HO_14, BK293, HI0, HK, HB⟩ := hrel; cases gk with
              | zero => exact absurd HA.out (by simp [au.l2])
              | succ k6 =>
               have H := HA.out; clear HA; simp only [au.l2] at H
               by_cases c47 : x19_6 < x18_38
               ·
                rw [if_pos c47] at H; have c47b0 := decide_eq_true c47; clear c47
                by_cases c48 : 0 ≤ x16_36
                rotate_left
                ·
                 rw [if_neg c48] at H; exact absurd H (by simp)
                rw [if_pos c48] at H; have c48b0 := decide_eq_true c48; clear c48
                by_cases c49 : x16_36 < (x14_6.length : Int)
                rotate_left
                ·
                 rw [if_neg c49] at H; exact absurd H (by simp)
                rw [if_pos c49] at H; have c49b0 := decide_eq_true c49; clear c49; obtain ⟨t307, A50, H⟩ := ob H; (try dsimp -simprocs only at H)
                by_cases c51 : 0 ≤ x19_6
                rotate_left
                ·
                 rw [if_neg c51] at H; exact absurd H (by simp)
                rw [if_pos c51] at H; have c51b0 := decide_eq_true c51; clear c51
                by_cases c52 : x19_6 < (x14_6.length : Int)
                rotate_left
                ·
                 rw [if_neg c52] at H; exact absurd H (by simp)
                rw [if_pos c52] at H; have c52b0 := decide_eq_true c52; clear c52; obtain ⟨⟨t309, t310⟩, A53, H⟩ := ob H; (try dsimp -simprocs only at H); obtain ⟨⟨t311, t312⟩, A54, H⟩ := ob H; (try dsimp -simprocs only at H); obtain ⟨y313, hy313⟩ : ∃ y_ : List Int, y_ = (x14_6.set (x16_36 : Int).toNat t311) := ⟨_, rfl⟩; replace H : (au.l2 k6 a2 a3 (l4.length : Int) y313 x16_36 x18_38 (wrap64 (x19_6 + 1)) (l4.length : Int) x57_3 t312 a1_0 a1_1 a1_2 l1_3) = some (r1, r2, r3) := by first | (rw [hy313]; with_reducible exact H) | (have H2_ := (Option.bind_some _ _).symm.trans H; rw [hy313]; with_reducible exact H2_) | (have H2_ := (Option.bind_some _ _).symm.trans H; with_reducible exact H2_) | with_reducible exact H | (rw [hy313]; exact H) | exact H
                have Ny313 := aa.mk hy313; clear hy313; have H' := aa.mk H; clear H; obtain ⟨Ao56, co56, eo56⟩ := Kd.mg HO_14.out; subst eo56
                try go_wp2
                refine ax5 (Kd.jy HO_14.out) (dz BK293.out) (di.drew HI0.out) (xh HK.out) (gy HB.out) ?_; clear HO_14 BK293 HI0 HK HB; intro HO_14 BK293 HI0 HK HB; have p306 : 0 ≤ (x16_36 : Int) := of_decide_eq_true (by first | (with_reducible assumption) | assumption); have q306 : x16_36 < (x14_6.length : Int) := of_decide_eq_true (by first | (with_reducible assumption) | assumption); obtain ⟨ad306, e306, hx306_0⟩ := Kd.lc (Kd.jq HO_14.out).2.2 x16_36 p306 q306; cases e306; replace p306 := eq_true p306; replace q306 := eq_true q306; have p308 : 0 ≤ (x19_6 : Int) := of_decide_eq_true (by first | (with_reducible assumption) | assumption); have q308 : x19_6 < (x14_6.length : Int) := of_decide_eq_true (by first | (with_reducible assumption) | assumption); obtain ⟨ad308, e308, hx308_0⟩ := Kd.lc (Kd.jq HO_14.out).2.2 x19_6 p308 q308; obtain rfl : ad306 = ad308 := (by injection e308); replace p308 := eq_true p308; replace q308 := eq_true q308; refine vk (n := 20) (S := fun w' => w'.cell? ⟨gb293, 0, none⟩ = some (.int .i64 a1_0) ∧ w'.cell? ⟨gb293, 1, none⟩ = some (.int .i64 a1_1) ∧ w'.cell? ⟨gb293, 2, none⟩ = some (.int .i64 a1_2) ∧ w'.cell? ⟨gb293, 3, none⟩ = some (.slice A1_3 l1_3.length c1_3) ∧ w'.cell? (ad306.add (x16_36).toNat) = some (.int .u64 (rd x14_6 x16_36)) ∧ w'.cell? (ad306.add (x19_6).toNat) = some (.int .u64 (rd x14_6 x19_6))) (ds := [19]) #[false, false, false, false, false, false, false, false, false, false, false, false, false, false, false, false, false, false, false, false] (by kernel_rfl) rfl rfl ⟨bk BK293 0, bk BK293 1, bk BK293 2, bk BK293 3, hx306_0, hx308_0⟩ (fun hHeld => ?_); refine qa au.tab21 au.bits21 (fun HT_ HW_ => ?_)
                generalize wr.drew = w57 at HO_14 BK293 HI0 HK HB hx306_0 hx308_0 hHeld ⊢
                refine pu 0 81 (lm 20 1) HT_ ?_; refine pu 1 82 (lm 20 3) HT_ ?_; refine pu 2 83 (lm 20 7) HT_ ?_; refine pu 3 84 (lm 20 15) HT_ ?_; refine pu 4 85 (lm 20 31) HT_ ?_; refine pu 5 86 (lm 20 63) HT_ ?_; refine pu 7 88 (lm 20 191) HT_ ?_; refine pu 9 90 (lm 20 703) HT_ ?_; refine pu 10 91 (lm 20 1727) HT_ ?_; refine pu 12 93 (lm 20 5823) HT_ ?_; refine pu 13 94 (lm 20 14015) HT_ ?_; refine pu 14 95 (lm 20 30399) HT_ ?_; refine ta 6 87 (lm 20 30463) HT_ HW_ hHeld ?_; refine ta 8 89 (lm 20 30719) HT_ HW_ hHeld ?_; refine ta 15 96 (lm 20 63487) HT_ HW_ hHeld ?_; refine on 11 (some 92) (lm 20 65535) HT_ (fun K hK => ?_); refine qd Tryd.func19 (by kernel_rfl) rfl #[.agg #[.int .i64 a1_0, .int .i64 a1_1, .int .i64 a1_2, .slice A1_3 l1_3.length c1_3], .int .i64 x16_36, .int .i64 x19_6] (by rfl) rfl rfl ga ?_
                with_reducible refine (je.calls a1_0 a1_1 a1_2 _ _ l1_3 x16_36 x19_6 t307 _ ?side1 ?side2 A50.out).mono ?_
                (case side1 => exact Kd.Di 0 HR1_3.out (ky HK) hf1_3); (case side2 => exact HC1_3.out); rintro e w58 ⟨rfl, hb⟩; have HS4_ := (hb.cell (World.block_lt_of_cell? _ _ (hHeld.2.2.2.2.1))).trans (hHeld.2.2.2.2.1); have HS5_ := (hb.cell (World.block_lt_of_cell? _ _ (hHeld.2.2.2.2.2))).trans (hHeld.2.2.2.2.2); refine ⟨_, rfl, ?_⟩; refine ax5 (Kd.cu (kr HO_14) hb) (bb BK293 hb) (di.below (yg HI0) hb) (fw.trans (ky HK) (fw.of_below hb g none) (.inl rfl)) (af zm hb) ?_; clear HO_14 BK293 HI0 HK HB; intro HO_14 BK293 HI0 HK HB; refine hK.out _ _ ⟨bk BK293 0, bk BK293 1, bk BK293 2, bk BK293 3, HS4_, HS5_⟩ (fun hHeld => ?_); clear hK K; refine no 92 ?_; refine on 16 (some 97) (lm 20 131071) HT_ (fun K hK => ?_); refine qd Tryd.func37 (by kernel_rfl) rfl #[.pointer (some ⟨g, 0, none⟩), .int .u64 t307, .int .u64 (rd x14_6 x19_6)] (by rfl) rfl rfl ga ?_
                with_reducible refine (o7.calls k6 g x1000_6 t307 (rd x14_6 x19_6) t309 t310 w0 _ ?side1 ?side2 A53.out).mono ?_
                (case side1 => repeat (first | (with_reducible first | exact HI0.out | apply di.alloc | apply di.drewN | apply di.drew | apply di.Bb | refine di.far ?_ NB0_293.out _) | exact HI0.out)); (case side2 => repeat (first | (with_reducible first | exact HB.out | apply ji | apply iy | apply gy | refine jl ?_ (di.ge HI0.out) | refine jl ?_ GE293.out) | exact HB.out)); rintro e w59 ⟨rfl, hi, hb, hk⟩; have HS4_ := Aj hk (hHeld.2.2.2.2.1) (by first | (rw [add_block]; exact Kd.pz (di.own_ne HI0.out HO_14.out (by decide))) | (show (Addr.add _ _).block ≠ _; rw [add_block]; exact Kd.pz (di.own_ne HI0.out HO_14.out (by decide))) | exact Kd.pz (di.own_ne HI0.out HO_14.out (by decide))); have HS5_ := Aj hk (hHeld.2.2.2.2.2) (by first | (rw [add_block]; exact Kd.pz (di.own_ne HI0.out HO_14.out (by decide))) | (show (Addr.add _ _).block ≠ _; rw [add_block]; exact Kd.pz (di.own_ne HI0.out HO_14.out (by decide))) | exact Kd.pz (di.own_ne HI0.out HO_14.out (by decide))); refine ⟨_, rfl, ?_⟩; refine ax5 (Kd.ku (Kd.R_keep (di.apart (show di w0 _ g x1000_6 from yg HI0) (kr HO_14) (by decide)) hk (fun _ h => h.2)) (fun _ h => h.1)) (fw.blk hk (g' := gb293) (o := .cells #[.int .i64 a1_0, .int .i64 a1_1, .int .i64 a1_2, .slice A1_3 l1_3.length c1_3] 35 (0, 0)) (kb BK293) NB293_0.out (by simp)) (fw.trans (ky HK) hk (.inl rfl)) hb hi ?_; clear HO_14 BK293 HK HB HI0; intro HO_14 BK293 HK HB HI0; refine hK.out _ _ ⟨bk BK293 0, bk BK293 1, bk BK293 2, bk BK293 3, HS4_, HS5_⟩ (fun hHeld => ?_); clear hK K; refine no 97 ?_; refine on 17 (some 98) (lm 20 262143) HT_ (fun K hK => ?_); refine qd Tryd.func41 (by kernel_rfl) rfl #[.pointer (some ⟨g, 0, none⟩), .int .u64 (rd x14_6 x16_36), .int .u64 t309] (by rfl) rfl rfl ga ?_
                with_reducible refine (oz.calls k6 g t310 (rd x14_6 x16_36) t309 t311 t312 w0 _ ?side1 ?side2 A54.out).mono ?_
                (case side1 => repeat (first | (with_reducible first | exact HI0.out | apply di.alloc | apply di.drewN | apply di.drew | apply di.Bb | refine di.far ?_ NB0_293.out _) | exact HI0.out)); (case side2 => repeat (first | (with_reducible first | exact HB.out | apply ji | apply iy | apply gy | refine jl ?_ (di.ge HI0.out) | refine jl ?_ GE293.out) | exact HB.out)); rintro e w60 ⟨rfl, hi, hb, hk⟩; have HS4_ := Aj hk (hHeld.2.2.2.2.1) (by first | (rw [add_block]; exact Kd.pz (di.own_ne HI0.out HO_14.out (by decide))) | (show (Addr.add _ _).block ≠ _; rw [add_block]; exact Kd.pz (di.own_ne HI0.out HO_14.out (by decide))) | exact Kd.pz (di.own_ne HI0.out HO_14.out (by decide))); have HS5_ := Aj hk (hHeld.2.2.2.2.2) (by first | (rw [add_block]; exact Kd.pz (di.own_ne HI0.out HO_14.out (by decide))) | (show (Addr.add _ _).block ≠ _; rw [add_block]; exact Kd.pz (di.own_ne HI0.out HO_14.out (by decide))) | exact Kd.pz (di.own_ne HI0.out HO_14.out (by decide))); refine ⟨_, rfl, ?_⟩; refine ax5 (Kd.ku (Kd.R_keep (di.apart (show di w0 _ g t310 from yg HI0) (kr HO_14) (by decide)) hk (fun _ h => h.2)) (fun _ h => h.1)) (fw.blk hk (g' := gb293) (o := .cells #[.int .i64 a1_0, .int .i64 a1_1, .int .i64 a1_2, .slice A1_3 l1_3.length c1_3] 35 (0, 0)) (kb BK293) NB293_0.out (by simp)) (fw.trans (ky HK) hk (.inl rfl)) hb hi ?_; clear HO_14 BK293 HK HB HI0; intro HO_14 BK293 HK HB HI0; have p55 : 0 ≤ (x16_36 : Int) := of_decide_eq_true (by first | (with_reducible assumption) | assumption); have q55 : (x16_36 : Int) < ((x14_6.length : Int) : Int) := of_decide_eq_true (by first | (with_reducible assumption) | assumption); obtain ⟨go55, co55, eo55, gb55, gl55, cl55, HG55⟩ := Kd.Ca HO_14.out (by omega)
                (first | cases eo55 | (injection eo55 with ea_ en_ ec_; (first | subst ea_ | (injection ea_ with ea_; subst ea_)); subst ec_; clear en_))
                have GB55 := aa.mk gb55; have GG55 := aa.mk HG55; clear gb55 gl55 HG55
                (first | simp only [add_plain] at hx306_0 | skip)
                (first | simp only [add_plain] at hx308_0 | skip)
                obtain ⟨hx55_0, hf55_0⟩ := Kd.zn 0 HO_14.out (x16_36 : Int) p55 q55; replace p55 := eq_true p55; replace q55 := eq_true q55; have HN0_go55 := aa.mk (show g ≠ go55 from by have h_ := di.own_ne HI0.out HO_14.out (by decide); intro e_; exact h_ (by rw [e_]; rfl)); have HP61 := Kd.Fh HO_14.out (x16_36 : Int) t311; rw [← Ny313.out] at HP61; have HQ61 := aa.mk HP61; clear HP61; refine hK.out _ _ ⟨bk BK293 0, bk BK293 1, bk BK293 2, bk BK293 3, HS4_, HS5_⟩ (fun hHeld => ?_); clear hK K; refine no 98 ?_; refine pu 18 99 (lm 20 524287) HT_ ?_; refine Ea (i := 19) (N := none) #[true, true, true, true, true, true, true, true, true, true, true, true, true, true, true, true, true, true, true, true] rfl rfl (Dc HT_.out (by kernel_rfl)) (by decide) (fun K hK => ?_); refine Av (w1 := ?_) (by rfl) rfl ?_ ?_; rotate_left
                ·
                 go_simp
                 rfl
                refine hK.out _ _ ?_; clear hK K; refine zg (uy HT_.out (by kernel_rfl)) ?_
                try go_wp2
                go_roundg k6
                case measure => have := HJ5.out; have := HK2.out; have := HK3.out; have := HJ36.out; have := HJ38.out; have := HK6.out; omega
                case rel => exact ⟨(y313), (wrap64 (x19_6 + 1)), (t312), (by first | rfl | (simp; done) | (simp [*]; done)), H', ⟨by have := HJ5.out; have := HK2.out; have := HK3.out; have := HJ36.out; have := HJ38.out; have := HK6.out; omega⟩, ⟨kr HQ61⟩, ⟨by (with_reducible repeat (first | refine jk ?_ _ | refine dz ?_ | refine jb ?_ _)); refine yj ?_ (by have h_ := Kd.vg HO_14.out BK293.out (by decide); intro e_; exact h_ (by rw [e_]; rfl)) _; (with_reducible repeat (first | refine jk ?_ _ | refine dz ?_ | refine jb ?_ _)); exact BK293.out⟩, ⟨yg HI0⟩, ⟨ky HK⟩, ⟨by repeat (first | (with_reducible first | exact HB.out | apply ji | apply iy | apply gy | refine jl ?_ (Nat.le_trans HL.out GB55.out) | refine jl ?_ (di.ge HI0.out) | refine jl ?_ GE293.out) | exact HB.out)⟩⟩
               ·
                rw [if_neg c47] at H; have c47b0 := decide_eq_false c47; clear c47
                by_cases c62 : a3 = true
                ·
                 subst c62; rw [if_pos rfl] at H; have H' := aa.mk H; clear H; go_wp2
                 go_roundg k6
                 case measure => have := HJ5.out; have := HK2.out; have := HK3.out; have := HJ36.out; have := HJ38.out; have := HK6.out; omega
                 case rel => exact ⟨(x14_6), (wrap64 (x57_3 + 1)), (x1000_6), (by first | rfl | (simp; done) | (simp [*]; done)), H', ⟨by have := HJ5.out; have := HK2.out; have := HK3.out; have := HJ36.out; have := HJ38.out; have := HK6.out; omega⟩, ⟨kr HO_14⟩, ⟨kb BK293⟩, ⟨yg HI0⟩, ⟨ky HK⟩, ⟨zm⟩⟩
                ·
                 replace c62 := Bool.eq_false_iff.mpr c62; subst c62; rw [if_neg (show ¬ (false = true) by decide)] at H
                 by_cases c63 : 0 ≤ x16_36
                 rotate_left
                 ·
                  rw [if_neg c63] at H; exact absurd H (by simp)
                 rw [if_pos c63] at H; have c63b0 := decide_eq_true c63; clear c63
                 by_cases c64 : x16_36 < (x14_6.length : Int)
                 rotate_left
                 ·
                  rw [if_neg c64] at H; exact absurd H (by simp)
                 rw [if_pos c64] at H; have c64b0 := decide_eq_true c64; clear c64; obtain ⟨t315, A65, H⟩ := ob H; (try dsimp -simprocs only at H); obtain ⟨⟨t316, t317⟩, A66, H⟩ := ob H; (try dsimp -simprocs only at H); obtain ⟨y318, hy318⟩ : ∃ y_ : List Int, y_ = (x14_6.set (x16_36 : Int).toNat t316) := ⟨_, rfl⟩; replace H : (au.l1 k6 a2 false (l4.length : Int) y318 (l4.length : Int) (wrap64 (x57_3 + 1)) t317 a1_0 a1_1 a1_2 l1_3) = some (r1, r2, r3) := by first | (rw [hy318]; with_reducible exact H) | (have H2_ := (Option.bind_some _ _).symm.trans H; rw [hy318]; with_reducible exact H2_) | (have H2_ := (Option.bind_some _ _).symm.trans H; with_reducible exact H2_) | with_reducible exact H | (rw [hy318]; exact H) | exact H
                 have Ny318 := aa.mk hy318; clear hy318; have H' := aa.mk H; clear H; obtain ⟨Ao68, co68, eo68⟩ := Kd.mg HO_14.out; subst eo68
                 try go_wp2
                 refine ax5 (Kd.jy HO_14.out) (dz BK293.out) (di.drew HI0.out) (xh HK.out) (gy HB.out) ?_; clear HO_14 BK293 HI0 HK HB; intro HO_14 BK293 HI0 HK HB; have p314 : 0 ≤ (x16_36 : Int) := of_decide_eq_true (by first | (with_reducible assumption) | assumption); have q314 : x16_36 < (x14_6.length : Int) := of_decide_eq_true (by first | (with_reducible assumption) | assumption); obtain ⟨ad314, e314, hx314_0⟩ := Kd.lc (Kd.jq HO_14.out).2.2 x16_36 p314 q314; cases e314; replace p314 := eq_true p314; replace q314 := eq_true q314; refine vk (n := 14) (S := fun w' => w'.cell? ⟨gb293, 0, none⟩ = some (.int .i64 a1_0) ∧ w'.cell? ⟨gb293, 1, none⟩ = some (.int .i64 a1_1) ∧ w'.cell? ⟨gb293, 2, none⟩ = some (.int .i64 a1_2) ∧ w'.cell? ⟨gb293, 3, none⟩ = some (.slice A1_3 l1_3.length c1_3) ∧ w'.cell? (ad314.add (x16_36).toNat) = some (.int .u64 (rd x14_6 x16_36))) (ds := [13]) #[false, false, false, false, false, false, false, false, false, false, false, false, false, false] (by kernel_rfl) rfl rfl ⟨bk BK293 0, bk BK293 1, bk BK293 2, bk BK293 3, hx314_0⟩ (fun hHeld => ?_); refine qa au.tab23 au.bits23 (fun HT_ HW_ => ?_)
                 generalize wr.drew = w69 at HO_14 BK293 HI0 HK HB hx314_0 hHeld ⊢
                 refine pu 0 102 (lm 14 1) HT_ ?_; refine pu 1 103 (lm 14 3) HT_ ?_; refine pu 2 104 (lm 14 7) HT_ ?_; refine pu 3 105 (lm 14 15) HT_ ?_; refine pu 4 106 (lm 14 31) HT_ ?_; refine pu 5 107 (lm 14 63) HT_ ?_; refine pu 8 110 (lm 14 319) HT_ ?_; refine pu 9 111 (lm 14 831) HT_ ?_; refine ta 6 108 (lm 14 895) HT_ HW_ hHeld ?_; refine ta 7 109 (lm 14 1023) HT_ HW_ hHeld ?_; refine on 10 (some 112) (lm 14 2047) HT_ (fun K hK => ?_); refine qd Tryd.func19 (by kernel_rfl) rfl #[.agg #[.int .i64 a1_0, .int .i64 a1_1, .int .i64 a1_2, .slice A1_3 l1_3.length c1_3], .int .i64 x16_36, .int .i64 x16_36] (by rfl) rfl rfl ga ?_
                 with_reducible refine (je.calls a1_0 a1_1 a1_2 _ _ l1_3 x16_36 x16_36 t315 _ ?side1 ?side2 A65.out).mono ?_
                 (case side1 => exact Kd.Di 0 HR1_3.out (ky HK) hf1_3); (case side2 => exact HC1_3.out); rintro e w70 ⟨rfl, hb⟩; have HS4_ := (hb.cell (World.block_lt_of_cell? _ _ (hHeld.2.2.2.2))).trans (hHeld.2.2.2.2); refine ⟨_, rfl, ?_⟩; refine ax5 (Kd.cu (kr HO_14) hb) (bb BK293 hb) (di.below (yg HI0) hb) (fw.trans (ky HK) (fw.of_below hb g none) (.inl rfl)) (af zm hb) ?_; clear HO_14 BK293 HI0 HK HB; intro HO_14 BK293 HI0 HK HB; refine hK.out _ _ ⟨bk BK293 0, bk BK293 1, bk BK293 2, bk BK293 3, HS4_⟩ (fun hHeld => ?_); clear hK K; refine no 112 ?_; refine on 11 (some 113) (lm 14 4095) HT_ (fun K hK => ?_); refine qd Tryd.func42 (by kernel_rfl) rfl #[.pointer (some ⟨g, 0, none⟩), .int .u64 (rd x14_6 x16_36), .int .u64 t315] (by rfl) rfl rfl ga ?_
                 with_reducible refine (o5.calls k6 g x1000_6 (rd x14_6 x16_36) t315 t316 t317 w0 _ ?side1 ?side2 A66.out).mono ?_
                 (case side1 => repeat (first | (with_reducible first | exact HI0.out | apply di.alloc | apply di.drewN | apply di.drew | apply di.Bb | refine di.far ?_ NB0_293.out _) | exact HI0.out)); (case side2 => repeat (first | (with_reducible first | exact HB.out | apply ji | apply iy | apply gy | refine jl ?_ (di.ge HI0.out) | refine jl ?_ GE293.out) | exact HB.out)); rintro e w71 ⟨rfl, hi, hb, hk⟩; have HS4_ := Aj hk (hHeld.2.2.2.2) (by first | (rw [add_block]; exact Kd.pz (di.own_ne HI0.out HO_14.out (by decide))) | (show (Addr.add _ _).block ≠ _; rw [add_block]; exact Kd.pz (di.own_ne HI0.out HO_14.out (by decide))) | exact Kd.pz (di.own_ne HI0.out HO_14.out (by decide))); refine ⟨_, rfl, ?_⟩; refine ax5 (Kd.ku (Kd.R_keep (di.apart (show di w0 _ g x1000_6 from yg HI0) (kr HO_14) (by decide)) hk (fun _ h => h.2)) (fun _ h => h.1)) (fw.blk hk (g' := gb293) (o := .cells #[.int .i64 a1_0, .int .i64 a1_1, .int .i64 a1_2, .slice A1_3 l1_3.length c1_3] 35 (0, 0)) (kb BK293) NB293_0.out (by simp)) (fw.trans (ky HK) hk (.inl rfl)) hb hi ?_; clear HO_14 BK293 HK HB HI0; intro HO_14 BK293 HK HB HI0; have p67 : 0 ≤ (x16_36 : Int) := of_decide_eq_true (by first | (with_reducible assumption) | assumption); have q67 : (x16_36 : Int) < ((x14_6.length : Int) : Int) := of_decide_eq_true (by first | (with_reducible assumption) | assumption); obtain ⟨go67, co67, eo67, gb67, gl67, cl67, HG67⟩ := Kd.Ca HO_14.out (by omega)
                 (first | cases eo67 | (injection eo67 with ea_ en_ ec_; (first | subst ea_ | (injection ea_ with ea_; subst ea_)); subst ec_; clear en_))
                 have GB67 := aa.mk gb67; have GG67 := aa.mk HG67; clear gb67 gl67 HG67
                 (first | simp only [add_plain] at hx314_0 | skip)
                 obtain ⟨hx67_0, hf67_0⟩ := Kd.zn 0 HO_14.out (x16_36 : Int) p67 q67; replace p67 := eq_true p67; replace q67 := eq_true q67; have HN0_go67 := aa.mk (show g ≠ go67 from by have h_ := di.own_ne HI0.out HO_14.out (by decide); intro e_; exact h_ (by rw [e_]; rfl)); have HP72 := Kd.Fh HO_14.out (x16_36 : Int) t316; rw [← Ny318.out] at HP72; have HQ72 := aa.mk HP72; clear HP72; refine hK.out _ _ ⟨bk BK293 0, bk BK293 1, bk BK293 2, bk BK293 3, HS4_⟩ (fun hHeld => ?_); clear hK K; refine no 113 ?_; refine pu 12 114 (lm 14 8191) HT_ ?_; refine Ea (i := 13) (N := none) #[true, true, true, true, true, true, true, true, true, true, true, true, true, true] rfl rfl (Dc HT_.out (by kernel_rfl)) (by decide) (fun K hK => ?_); refine Av (w1 := ?_) (by rfl) rfl ?_ ?_; rotate_left
                 ·
                  go_simp
                  rfl
                 refine hK.out _ _ ?_; clear hK K; refine zg (uy HT_.out (by kernel_rfl)) ?_
                 try go_wp2
                 go_roundg k6
                 case measure => have := HJ5.out; have := HK2.out; have := HK3.out; have := HJ36.out; have := HJ38.out; have := HK6.out; omega
                 case rel => exact ⟨(y318), (wrap64 (x57_3 + 1)), (t317), (by first | rfl | (simp; done) | (simp [*]; done)), H', ⟨by have := HJ5.out; have := HK2.out; have := HK3.out; have := HJ36.out; have := HJ38.out; have := HK6.out; omega⟩, ⟨kr HQ72⟩, ⟨by (with_reducible repeat (first | refine jk ?_ _ | refine dz ?_ | refine jb ?_ _)); refine yj ?_ (by have h_ := Kd.vg HO_14.out BK293.out (by decide); intro e_; exact h_ (by rw [e_]; rfl)) _; (with_reducible repeat (first | refine jk ?_ _ | refine dz ?_ | refine jb ?_ _)); exact BK293.out⟩, ⟨yg HI0⟩, ⟨ky HK⟩, ⟨by repeat (first | (with_reducible first | exact HB.out | apply ji | apply iy | apply gy | refine jl ?_ (Nat.le_trans HL.out GB67.out) | refine jl ?_ (di.ge HI0.out) | refine jl ?_ GE293.out) | exact HB.out)⟩⟩
end Go.Proofs.YtnjobojkoaknpaaDoor.F
