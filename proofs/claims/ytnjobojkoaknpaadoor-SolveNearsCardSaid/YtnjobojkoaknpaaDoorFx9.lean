-- Written by a program of this seat's session (mkprint), out of the translation.
import Derived.Test.YtnjobojkoaknpaaDoorShort
import Derived.Test.YtnjobojkoaknpaaDoorFx0
import Derived.Test.YtnjobojkoaknpaaDoorFx2
import Derived.Test.YtnjobojkoaknpaaDoorFx5
import Derived.Test.YtnjobojkoaknpaaDoorFx6
import Derived.Test.YtnjobojkoaknpaaDoorFx7
namespace Go.Proofs.YtnjobojkoaknpaaDoor.F
open Go.RowKit Go.Proofs.YtnjobojkoaknpaaDoorW.PrintWords Go.Proofs.YtnjobojkoaknpaaDoorW.PrintLast Go.Proofs.YtnjobojkoaknpaaDoorW.PrintMore
attribute [local go_sem] uh uf vv vw qw qp tu ui   -- for this text's walks alone
set_option linter.unusedVariables false
set_option linter.unusedSimpArgs false

attribute [local go_sem] sel_run75
/-! ### ai: function 12 -/
mutual
def ai.j0 : Nat → Bool → Bool → List Int → Bool → Int → Int → Int → List Int → Option (List Int × Int)
 | 0, _, _, _, _, _, _, _, _ => none
 | k + 1, x2, x3, x4, x36, x320000, x320001, x320002, x320003 => if x36 = true then (some (([] : List Int), 4)) else (ai.l0 k x2 x3 x4 (x4.length : Int) (x4.length : Int) 0 x320000 x320001 x320002 x320003)
def ai.l0 : Nat → Bool → Bool → List Int → Int → Int → Int → Int → Int → Int → List Int → Option (List Int × Int)
 | 0, _, _, _, _, _, _, _, _, _, _ => none
 | k + 1, x2, x3, x4, x12, x39, x40, x320000, x320001, x320002, x320003 => if x40 < x39 then (if x3 = true then (ai.l0 k x2 x3 x4 x12 x39 (wrap64 (x40 + 1)) x320000 x320001 x320002 x320003) else ((je.f x320000 x320001 x320002 x320003 x40 x40).bind fun t321 => ((dw.f k t321).bind fun t322 => (if t322 = 1 then (some (([] : List Int), 7)) else (ai.l0 k x2 x3 x4 x12 x39 (wrap64 (x40 + 1)) x320000 x320001 x320002 x320003))))) else (if ([] : List Int).length + x4.length < 17592186044416 then (ai.l1 k x2 x3 x12 (([] : List Int) ++ x4) x12 0 x320000 x320001 x320002 x320003) else (none))
def ai.l1 : Nat → Bool → Bool → Int → List Int → Int → Int → Int → Int → Int → List Int → Option (List Int × Int)
 | 0, _, _, _, _, _, _, _, _, _, _ => none
 | k + 1, x2, x3, x12, x14, x56, x57, x320000, x320001, x320002, x320003 => if x57 < x56 then (if x2 = true then (ai.j3 k x2 x3 x12 x14 (wrap64 ((wrap64 (x12 - 1)) - x57)) x56 x57 x320000 x320001 x320002 x320003) else (ai.j3 k x2 x3 x12 x14 x57 x56 x57 x320000 x320001 x320002 x320003)) else (some (x14, 0))
def ai.j3 : Nat → Bool → Bool → Int → List Int → Int → Int → Int → Int → Int → Int → List Int → Option (List Int × Int)
 | 0, _, _, _, _, _, _, _, _, _, _, _ => none
 | k + 1, x2, x3, x12, x14, x16, x56, x57, x320000, x320001, x320002, x320003 => if x2 = true then ((zy.f x2).bind fun t326 => ((zu.f x16 x12).bind fun bt327 => (ai.j4 k x2 x3 x12 x14 x16 bt327.1 bt327.2 x56 x57 x320000 x320001 x320002 x320003))) else ((zq.f x2).bind fun t329 => ((zt.f x16 x12).bind fun bt330 => (ai.j4 k x2 x3 x12 x14 x16 bt330.1 bt330.2 x56 x57 x320000 x320001 x320002 x320003)))
def ai.j4 : Nat → Bool → Bool → Int → List Int → Int → Int → Int → Int → Int → Int → Int → Int → List Int → Option (List Int × Int)
 | 0, _, _, _, _, _, _, _, _, _, _, _, _, _ => none
 | k + 1, x2, x3, x12, x14, x16, x17, x18, x56, x57, x320000, x320001, x320002, x320003 => ai.l2 k x2 x3 x12 x14 x16 x18 x17 x56 x57 x320000 x320001 x320002 x320003
def ai.l2 : Nat → Bool → Bool → Int → List Int → Int → Int → Int → Int → Int → Int → Int → Int → List Int → Option (List Int × Int)
 | 0, _, _, _, _, _, _, _, _, _, _, _, _, _ => none
 | k + 1, x2, x3, x12, x14, x16, x18, x19, x56, x57, x320000, x320001, x320002, x320003 => if x19 < x18 then (if 0 ≤ x16 then (if x16 < (x14.length : Int) then ((je.f x320000 x320001 x320002 x320003 x16 x19).bind fun t333 => (if 0 ≤ x19 then (if x19 < (x14.length : Int) then ((nu.f k t333 (rd x14 x19)).bind fun t335 => ((mq.f k (rd x14 x16) t335).bind fun t336 => (ai.l2 k x2 x3 x12 (x14.set (x16 : Int).toNat t336) x16 x18 (wrap64 (x19 + 1)) x56 x57 x320000 x320001 x320002 x320003))) else (none)) else (none))) else (none)) else (none)) else (if x3 = true then (ai.l1 k x2 x3 x12 x14 x56 (wrap64 (x57 + 1)) x320000 x320001 x320002 x320003) else (if 0 ≤ x16 then (if x16 < (x14.length : Int) then ((je.f x320000 x320001 x320002 x320003 x16 x16).bind fun t339 => ((mo.f k (rd x14 x16) t339).bind fun t340 => (ai.l1 k x2 x3 x12 (x14.set (x16 : Int).toNat t340) x56 (wrap64 (x57 + 1)) x320000 x320001 x320002 x320003))) else (none)) else (none)))
end
def ai.f (k : Nat)  (a1_0 : Int) (a1_1 : Int) (a1_2 : Int) (l1_3 : List Int) (a2 : Bool) (a3 : Bool) (l4 : List Int) : Option (List Int × Int) := (ay.f k a1_0 a1_1 a1_2 l1_3).bind fun t320 => (if t320 = 0 then (if a1_0 = a1_1 then (ai.j0 k a2 a3 l4 (a1_1 != (l4.length : Int)) a1_0 a1_1 a1_2 l1_3) else (ai.j0 k a2 a3 l4 true a1_0 a1_1 a1_2 l1_3)) else (ai.j0 k a2 a3 l4 true a1_0 a1_1 a1_2 l1_3))
theorem ai.jm : ∀ k, (∀ y0 y1 y2 y3 y4 y5 y6 y7, LeO (ai.j0 k y0 y1 y2 y3 y4 y5 y6 y7) (ai.j0 (k + 1) y0 y1 y2 y3 y4 y5 y6 y7)) ∧ (∀ y0 y1 y2 y3 y4 y5 y6 y7 y8 y9, LeO (ai.l0 k y0 y1 y2 y3 y4 y5 y6 y7 y8 y9) (ai.l0 (k + 1) y0 y1 y2 y3 y4 y5 y6 y7 y8 y9)) ∧ (∀ y0 y1 y2 y3 y4 y5 y6 y7 y8 y9, LeO (ai.l1 k y0 y1 y2 y3 y4 y5 y6 y7 y8 y9) (ai.l1 (k + 1) y0 y1 y2 y3 y4 y5 y6 y7 y8 y9)) ∧ (∀ y0 y1 y2 y3 y4 y5 y6 y7 y8 y9 y10, LeO (ai.j3 k y0 y1 y2 y3 y4 y5 y6 y7 y8 y9 y10) (ai.j3 (k + 1) y0 y1 y2 y3 y4 y5 y6 y7 y8 y9 y10)) ∧ (∀ y0 y1 y2 y3 y4 y5 y6 y7 y8 y9 y10 y11 y12, LeO (ai.j4 k y0 y1 y2 y3 y4 y5 y6 y7 y8 y9 y10 y11 y12) (ai.j4 (k + 1) y0 y1 y2 y3 y4 y5 y6 y7 y8 y9 y10 y11 y12)) ∧ (∀ y0 y1 y2 y3 y4 y5 y6 y7 y8 y9 y10 y11 y12, LeO (ai.l2 k y0 y1 y2 y3 y4 y5 y6 y7 y8 y9 y10 y11 y12) (ai.l2 (k + 1) y0 y1 y2 y3 y4 y5 y6 y7 y8 y9 y10 y11 y12))
 | 0 => ⟨fun _ _ _ _ _ _ _ _ r h => by simp [ai.j0] at h, fun _ _ _ _ _ _ _ _ _ _ r h => by simp [ai.l0] at h, fun _ _ _ _ _ _ _ _ _ _ r h => by simp [ai.l1] at h, fun _ _ _ _ _ _ _ _ _ _ _ r h => by simp [ai.j3] at h, fun _ _ _ _ _ _ _ _ _ _ _ _ _ r h => by simp [ai.j4] at h, fun _ _ _ _ _ _ _ _ _ _ _ _ _ r h => by simp [ai.l2] at h⟩
 | k + 1 => by
  obtain ⟨ih0, ih1, ih2, ih3, ih4, ih5⟩ := ai.jm k
  refine ⟨?_, ?_, ?_, ?_, ?_, ?_⟩ <;> intros <;> (first | unfold ai.j0 | unfold ai.l0 | unfold ai.l1 | unfold ai.j3 | unfold ai.j4 | unfold ai.l2) <;>
   repeat' with_reducible first | apply ih0 | apply ih1 | apply ih2 | apply ih3 | apply ih4 | apply ih5 | apply ay.mono | apply mo.mono | apply nu.mono | apply mq.mono | apply dw.mono | exact LeO.refl _ | exact LeO.none _ | refine LeO.ite ?_ ?_ | refine LeO.bind ?_ (fun _ => ?_)
theorem ai.mono : ∀ a0 a1 a2 a3 a4 a5 a6 k, LeO (ai.f k a0 a1 a2 a3 a4 a5 a6) (ai.f (k + 1) a0 a1 a2 a3 a4 a5 a6) := by
 intro a0 a1 a2 a3 a4 a5 a6 k; obtain ⟨ih0, ih1, ih2, ih3, ih4, ih5⟩ := ai.jm k
 unfold ai.f
 repeat' with_reducible first | apply ih0 | apply ih1 | apply ih2 | apply ih3 | apply ih4 | apply ih5 | apply ay.mono | apply mo.mono | apply nu.mono | apply mq.mono | apply dw.mono | exact LeO.refl _ | exact LeO.none _ | refine LeO.ite ?_ ?_ | refine LeO.bind ?_ (fun _ => ?_)
def ai.T21 : Bool × List (List Nat × List Nat) := (true, [([], []), ([], []), ([], []), ([], []), ([], []), ([3, 4], [3, 4]), ([5], [5]), ([], []), ([], []), ([], []), ([], []), ([8, 9, 10], [8, 9, 10]), ([], []), ([], []), ([12, 13], [12, 13]), ([14], [14]), ([7, 11, 15, 11], [7, 11, 15]), ([2, 6, 16, 16], [2, 6, 16]), ([0, 1, 0, 1, 2, 3, 4, 5, 6, 7, 8, 9, 10, 11, 12, 13, 14, 15, 16, 17], [0, 1]), ([18, 17, 17, 0, 1, 2, 3, 4, 5, 6, 7, 8, 9, 10, 11, 12, 13, 14, 15, 16, 17], [17, 18])])
def ai.B21 : List Nat := [0, 0, 0, 0, 0, 24, 56, 0, 0, 0, 0, 1792, 0, 0, 12288, 28672, 65408, 131068, 262143, 524287]
theorem ai.tab21 : xe .any (opsOf Tryd.f12 21) = ai.T21 := by kernel_rfl
theorem ai.bits21 : r9 ai.T21.2 ai.B21 = true := by kernel_rfl
def ai.T23 : Bool × List (List Nat × List Nat) := (true, [([], []), ([], []), ([], []), ([], []), ([], []), ([3, 4], [3, 4]), ([5], [5]), ([], []), ([], []), ([], []), ([7, 8, 9], [7, 8, 9]), ([2, 6, 10, 10], [2, 6, 10]), ([0, 1, 0, 1, 2, 3, 4, 5, 6, 7, 8, 9, 10, 11], [0, 1]), ([12, 11, 11, 0, 1, 2, 3, 4, 5, 6, 7, 8, 9, 10, 11], [11, 12])])
def ai.B23 : List Nat := [0, 0, 0, 0, 0, 24, 56, 0, 0, 0, 896, 2044, 4095, 8191]
theorem ai.tab23 : xe .any (opsOf Tryd.f12 23) = ai.T23 := by kernel_rfl
theorem ai.bits23 : r9 ai.T23.2 ai.B23 = true := by kernel_rfl
set_option maxHeartbeats 8000000 in
set_option maxRecDepth 100000 in
theorem ai.calls (k : Nat)  (a1_0 : Int) (a1_1 : Int) (a1_2 : Int) (A1_3 : Option Addr) (c1_3 : Nat) (l1_3 : List Int) (a2 : Bool) (a3 : Bool) (A4 : Option Addr) (c4 : Nat) (l4 : List Int) (r1 : List Int) (r2 : Int) (w : World) (hr1_3 : Kd.C (Kd.int .u64) w A1_3 l1_3.length l1_3) (hc1_3 : l1_3.length ≤ c1_3) (hr4 : Kd.C (Kd.int .u64) w A4 l4.length l4) (hc4 : l4.length ≤ c4) (h : ai.f k a1_0 a1_1 a1_2 l1_3 a2 a3 l4 = some (r1, r2)) :
  Calls Tryd.prog 12 #[.pointer none, .agg #[.int .i64 a1_0, .int .i64 a1_1, .int .i64 a1_2, .slice A1_3 l1_3.length c1_3], .bool a2, .bool a3, .slice A4 l4.length c4] w fun e w' => ∃ v0_ : Value, e = .returned (.tuple #[v0_, .int .i64 r2]) ∧ Kd.R (Kd.int .u64) 24 w' w.heap.size (fun _ => True) v0_ r1 ∧ Below w.heap.size w w' := by
 have hu35 := Tryd.underlying35; have hu75 := Tryd.underlying75; have HR1_3 := aa.mk hr1_3; have HC1_3 := aa.mk hc1_3; clear hr1_3 hc1_3; have HR4 := aa.mk hr4; have HC4 := aa.mk hc4; clear hr4 hc4; have HB := aa.mk (Below.refl w.heap.size w); have H : ((ay.f k a1_0 a1_1 a1_2 l1_3).bind fun t320 => (if t320 = 0 then (if a1_0 = a1_1 then (ai.j0 k a2 a3 l4 (a1_1 != (l4.length : Int)) a1_0 a1_1 a1_2 l1_3) else (ai.j0 k a2 a3 l4 true a1_0 a1_1 a1_2 l1_3)) else (ai.j0 k a2 a3 l4 true a1_0 a1_1 a1_2 l1_3))) = some (r1, r2) := h; clear h; have HC6 := aa.mk H; clear H; go_enter Tryd.func12, Tryd.ntmps12
 go_upto_region 1 with (first | ((with_reducible refine bq (N := 6) rfl ?_); refine l5 (N := 6) (cs := #[.int .i64 a1_0, .int .i64 a1_1, .int .i64 a1_2, .slice A1_3 l1_3.length c1_3]) (t := 35) ?_; intro gb319 hg w7 hbox hb; refine ax4 (af bel hb) hbox ((ge hg : w.heap.size ≤ gb319)) ((ge hg : w.heap.size ≤ gb319)) ?_; clear HB; intro HB BK319 GW319 GE319; clear hb hbox hg))
 (try simp only [Act.put, sa0, sa1, sa2])
 go_cut [36] (fun v36 wc => ∃ (kq : Nat) (x36_5 : Bool), v36 = .bool x36_5 ∧ aa (ai.j0 kq a2 a3 l4 x36_5 a1_0 a1_1 a1_2 l1_3 = some (r1, r2)) ∧ aa (kq ≤ k) ∧ aa (wc.heap[gb319]? = some (.cells #[.int .i64 a1_0, .int .i64 a1_1, .int .i64 a1_2, (.slice A1_3 l1_3.length c1_3)] 35 (0, 0))) ∧ aa (Below w.heap.size w wc))
 case first =>
  have H := HC6.out; clear HC6; obtain ⟨t320, A8, H⟩ := ob H; (try dsimp -simprocs only at H)
  by_cases c9 : t320 = 0
  ·
   rw [if_pos c9] at H; have c9b0 := beq_iff_eq.mpr c9; have c9b1 := bne_eq_false_iff_eq.mpr c9; clear c9
   (first | rw [c9b0] | (simp only [jw, l8]; rw [c9b0]) | skip)
   by_cases c10 : a1_0 = a1_1
   ·
    rw [if_pos c10] at H; have c10b0 := beq_iff_eq.mpr c10; have c10b1 := bne_eq_false_iff_eq.mpr c10; clear c10; have H' := aa.mk H; clear H; have ⟨_, _⟩ := cf BK319 0 rfl; have ⟨_, _⟩ := cf BK319 1 rfl; have ⟨_, _⟩ := cf BK319 2 rfl; have ⟨_, _⟩ := cf BK319 3 rfl
    go_wp2_with (first | ((with_reducible refine ag (f := 36) rfl ?_); refine df (some 21) rfl rfl Tryd.func36 (by kernel_rfl) rfl #[.agg #[.int .i64 a1_0, .int .i64 a1_1, .int .i64 a1_2, .slice A1_3 l1_3.length c1_3]] rfl ga ?_; (with_reducible refine (ay.calls k a1_0 a1_1 a1_2 _ _ l1_3 t320 _ ?side1 ?side2 A8.out).mono ?_); (case side1 => repeat (first | exact (Kd.uo HR1_3.out HB.out) | (with_reducible refine Kd.vo ?_ _) | (with_reducible refine Kd.wz ?_ _) | (with_reducible refine Kd.yl ?_))); (case side2 => exact HC1_3.out); rintro e w12 ⟨rfl, hb⟩; refine ⟨_, rfl, ?_⟩; refine ax2 (bb BK319 hb) (af bes hb) ?_; clear BK319; clear HB; intro BK319 HB; (try clear hb); have ⟨_, _⟩ := cf BK319 0 rfl; have ⟨_, _⟩ := cf BK319 1 rfl; have ⟨_, _⟩ := cf BK319 2 rfl; have ⟨_, _⟩ := cf BK319 3 rfl))
    go_meet
    case rel => exact ⟨_, ((a1_1 != (l4.length : Int))), (by first | rfl | (simp; done) | (simp [*]; done)), H', ⟨by first | omega | exact Nat.le_refl _⟩, ⟨kb BK319⟩, ⟨bes⟩⟩
   ·
    rw [if_neg c10] at H; have c10b0 := beq_eq_false_iff_ne.mpr c10; have c10b1 := bne_iff_ne.mpr c10; have H' := aa.mk H; clear H; have ⟨_, _⟩ := cf BK319 0 rfl; have ⟨_, _⟩ := cf BK319 1 rfl; have ⟨_, _⟩ := cf BK319 2 rfl; have ⟨_, _⟩ := cf BK319 3 rfl
    go_wp2_with (first | ((with_reducible refine ag (f := 36) rfl ?_); refine df (some 21) rfl rfl Tryd.func36 (by kernel_rfl) rfl #[.agg #[.int .i64 a1_0, .int .i64 a1_1, .int .i64 a1_2, .slice A1_3 l1_3.length c1_3]] rfl ga ?_; (with_reducible refine (ay.calls k a1_0 a1_1 a1_2 _ _ l1_3 t320 _ ?side1 ?side2 A8.out).mono ?_); (case side1 => repeat (first | exact (Kd.uo HR1_3.out HB.out) | (with_reducible refine Kd.vo ?_ _) | (with_reducible refine Kd.wz ?_ _) | (with_reducible refine Kd.yl ?_))); (case side2 => exact HC1_3.out); rintro e w15 ⟨rfl, hb⟩; refine ⟨_, rfl, ?_⟩; refine ax2 (bb BK319 hb) (af bes hb) ?_; clear BK319; clear HB; intro BK319 HB; (try clear hb); have ⟨_, _⟩ := cf BK319 0 rfl; have ⟨_, _⟩ := cf BK319 1 rfl; have ⟨_, _⟩ := cf BK319 2 rfl; have ⟨_, _⟩ := cf BK319 3 rfl))
    go_meet
    case rel => exact ⟨_, (true), (by first | rfl | (simp; done) | (simp [*]; done)), H', ⟨by first | omega | exact Nat.le_refl _⟩, ⟨kb BK319⟩, ⟨bes⟩⟩
  ·
   rw [if_neg c9] at H; have c9b0 := beq_eq_false_iff_ne.mpr c9; have c9b1 := bne_iff_ne.mpr c9
   (first | rw [c9b0] | (simp only [jw, l8]; rw [c9b0]) | skip)
   have H' := aa.mk H; clear H; have ⟨_, _⟩ := cf BK319 0 rfl; have ⟨_, _⟩ := cf BK319 1 rfl; have ⟨_, _⟩ := cf BK319 2 rfl; have ⟨_, _⟩ := cf BK319 3 rfl
   go_wp2_with (first | ((with_reducible refine ag (f := 36) rfl ?_); refine df (some 21) rfl rfl Tryd.func36 (by kernel_rfl) rfl #[.agg #[.int .i64 a1_0, .int .i64 a1_1, .int .i64 a1_2, .slice A1_3 l1_3.length c1_3]] rfl ga ?_; (with_reducible refine (ay.calls k a1_0 a1_1 a1_2 _ _ l1_3 t320 _ ?side1 ?side2 A8.out).mono ?_); (case side1 => repeat (first | exact (Kd.uo HR1_3.out HB.out) | (with_reducible refine Kd.vo ?_ _) | (with_reducible refine Kd.wz ?_ _) | (with_reducible refine Kd.yl ?_))); (case side2 => exact HC1_3.out); rintro e w18 ⟨rfl, hb⟩; refine ⟨_, rfl, ?_⟩; refine ax2 (bb BK319 hb) (af bes hb) ?_; clear BK319; clear HB; intro BK319 HB; (try clear hb)))
   go_meet
   case rel => exact ⟨_, (true), (by first | rfl | (simp; done) | (simp [*]; done)), H', ⟨by first | omega | exact Nat.le_refl _⟩, ⟨kb BK319⟩, ⟨bes⟩⟩
 case rest =>
  clear HC6
  obtain ⟨kq, x36_5, rfl, HA, HJ5, BK319, HB⟩ := hcut; cases kq with
  | zero => exact absurd HA.out (by simp [ai.j0])
  | succ kj5 =>
   have H := HA.out; clear HA; simp only [ai.j0] at H
   by_cases c19 : x36_5 = true
   ·
    subst c19; rw [if_pos rfl] at H; simp only [Option.some.injEq, Prod.mk.injEq] at H; obtain ⟨rfl, rfl⟩ := H; go_wp2
    go_ret2
    exact ⟨_, er, by first | exact Kd.Cg _ _ _ _ _ | exact Kd.N_nil _ _ _ _ _ | exact Kd.Cy _ _ _ _ _ | exact Kd.Q_nil _ _ _ _ _ | exact Kd.S_nil _ _ _ _ _, bes⟩
   ·
    replace c19 := Bool.eq_false_iff.mpr c19; subst c19; rw [if_neg (show ¬ (false = true) by decide)] at H; have H' := aa.mk H; clear H; go_wp2
    go_loopg [40] kj5 (fun kq v40 w' => ∃ (x40_2 : Int), v40 = .int .i64 x40_2 ∧ aa (ai.l0 kq a2 a3 l4 (l4.length : Int) (l4.length : Int) x40_2 a1_0 a1_1 a1_2 l1_3 = some (r1, r2)) ∧ aa (kq ≤ kj5) ∧ aa (w'.heap[gb319]? = some (.cells #[.int .i64 a1_0, .int .i64 a1_1, .int .i64 a1_2, (.slice A1_3 l1_3.length c1_3)] 35 (0, 0))) ∧ aa (Below w.heap.size w w'))
    case atStart => exact ⟨(0), (by first | rfl | (simp; done) | (simp [*]; done)), H', ⟨Nat.le_refl _⟩, ⟨kb BK319⟩, ⟨bes⟩⟩
    case round =>
     clear H'
     obtain ⟨x40_2, rfl, HA, HK2, BK319, HB⟩ := hrel; cases gk with
     | zero => exact absurd HA.out (by simp [ai.l0])
     | succ k2 =>
      have H := HA.out; clear HA; simp only [ai.l0] at H
      by_cases c20 : x40_2 < (l4.length : Int)
      ·
       rw [if_pos c20] at H; have c20b0 := decide_eq_true c20; clear c20
       by_cases c21 : a3 = true
       ·
        subst c21; rw [if_pos rfl] at H; have H' := aa.mk H; clear H; go_wp2
        go_roundg k2
        case measure => have := HJ5.out; have := HK2.out; omega
        case rel => exact ⟨(wrap64 (x40_2 + 1)), (by first | rfl | (simp; done) | (simp [*]; done)), H', ⟨by have := HJ5.out; have := HK2.out; omega⟩, ⟨kb BK319⟩, ⟨bes⟩⟩
       ·
        replace c21 := Bool.eq_false_iff.mpr c21; subst c21; rw [if_neg (show ¬ (false = true) by decide)] at H; obtain ⟨t321, A22, H⟩ := ob H; (try dsimp -simprocs only at H); obtain ⟨t322, A23, H⟩ := ob H; (try dsimp -simprocs only at H)
        by_cases c24 : t322 = 1
        ·
         rw [if_pos c24] at H; have c24b0 := beq_iff_eq.mpr c24; have c24b1 := bne_eq_false_iff_eq.mpr c24; clear c24; simp only [Option.some.injEq, Prod.mk.injEq] at H; obtain ⟨rfl, rfl⟩ := H; have ⟨_, _⟩ := cf BK319 0 rfl; have ⟨_, _⟩ := cf BK319 1 rfl; have ⟨_, _⟩ := cf BK319 2 rfl; have ⟨_, _⟩ := cf BK319 3 rfl
         go_wp2_with (first | (go_at_call 19; (with_reducible refine (je.calls a1_0 a1_1 a1_2 _ _ l1_3 x40_2 x40_2 t321 _ ?side1 ?side2 A22.out).mono ?_); (case side1 => repeat (first | exact (Kd.uo HR1_3.out HB.out) | (with_reducible refine Kd.vo ?_ _) | (with_reducible refine Kd.wz ?_ _) | (with_reducible refine Kd.yl ?_))); (case side2 => exact HC1_3.out); rintro e w26 ⟨rfl, hb⟩; refine ax2 (bb BK319 hb) (af bes hb) ?_; clear BK319; clear HB; intro BK319 HB; (try clear hb)) | (go_at_call 40; (with_reducible refine (dw.calls k2 t321 t322 _ A23.out).mono ?_); rintro e w' ⟨rfl, ⟨nd, rfl⟩⟩))
         go_ret2
         exact ⟨_, er, by first | exact Kd.Cg _ _ _ _ _ | exact Kd.N_nil _ _ _ _ _ | exact Kd.Cy _ _ _ _ _ | exact Kd.Q_nil _ _ _ _ _ | exact Kd.S_nil _ _ _ _ _, bes⟩
        ·
         rw [if_neg c24] at H; have c24b0 := beq_eq_false_iff_ne.mpr c24; have c24b1 := bne_iff_ne.mpr c24; have H' := aa.mk H; clear H; have ⟨_, _⟩ := cf BK319 0 rfl; have ⟨_, _⟩ := cf BK319 1 rfl; have ⟨_, _⟩ := cf BK319 2 rfl; have ⟨_, _⟩ := cf BK319 3 rfl
         go_wp2_with (first | (go_at_call 19; (with_reducible refine (je.calls a1_0 a1_1 a1_2 _ _ l1_3 x40_2 x40_2 t321 _ ?side1 ?side2 A22.out).mono ?_); (case side1 => repeat (first | exact (Kd.uo HR1_3.out HB.out) | (with_reducible refine Kd.vo ?_ _) | (with_reducible refine Kd.wz ?_ _) | (with_reducible refine Kd.yl ?_))); (case side2 => exact HC1_3.out); rintro e w28 ⟨rfl, hb⟩; refine ax2 (bb BK319 hb) (af bes hb) ?_; clear BK319; clear HB; intro BK319 HB; (try clear hb)) | (go_at_call 40; (with_reducible refine (dw.calls k2 t321 t322 _ A23.out).mono ?_); rintro e w' ⟨rfl, ⟨nd, rfl⟩⟩))
         go_roundg k2
         case measure => have := HJ5.out; have := HK2.out; omega
         case rel => exact ⟨(wrap64 (x40_2 + 1)), (by first | rfl | (simp; done) | (simp [*]; done)), H', ⟨by have := HJ5.out; have := HK2.out; omega⟩, ⟨kb BK319⟩, ⟨bes⟩⟩
      ·
       rw [if_neg c20] at H; have c20b0 := decide_eq_false c20; clear c20
       by_cases c29 : ([] : List Int).length + l4.length < 17592186044416
       rotate_left
       ·
        rw [if_neg c29] at H; exact absurd H (by simp)

       rw [if_pos c29] at H; have LMc29 := aa.mk c29; clear c29; obtain ⟨y323, hy323⟩ : ∃ y_ : List Int, y_ = (([] : List Int) ++ l4) := ⟨_, rfl⟩; replace H : (ai.l1 k2 a2 a3 (l4.length : Int) y323 (l4.length : Int) 0 a1_0 a1_1 a1_2 l1_3) = some (r1, r2) := by first | (rw [hy323]; with_reducible exact H) | (have H2_ := (Option.bind_some _ _).symm.trans H; rw [hy323]; with_reducible exact H2_) | (have H2_ := (Option.bind_some _ _).symm.trans H; with_reducible exact H2_) | with_reducible exact H | (rw [hy323]; exact H) | exact H
       have Ny323 := aa.mk hy323; clear hy323; have H' := aa.mk H; clear H
       go_wp2_with (first | ((with_reducible refine sw (b := .append) (xs := #[.const (.slice none 0 0), .tmp 54]) rfl ?_); at_builtin; refine Kd.D7 (Kd.int .u64) (w0 := w) w.heap.size rfl (.const (.slice none 0 0)) (.tmp 54) 33 24 (.int .u64 0) 8 rfl Tryd.underlying33 info24 rfl (by decide) (by omega) (.slice none 0 0) ([] : List Int) l4 _ _ _ (fun _ => True) (fun _ => False) rfl rfl ?aO ?aR (fun _ _ h => h) (fun _ h => h.elim) ?aF ?aB ?aS ?aL ?_; (case aR => repeat (first | exact (Kd.uo HR4.out HB.out) | (with_reducible refine Kd.vo ?_ _) | (with_reducible refine Kd.wz ?_ _) | (with_reducible refine Kd.yl ?_))); (case aB => exact bes); (case aF => exact (fun _ _ => trivial)); (case aO => exact ((Kd.Cg _ _ _ _ (fun _ => True)))); (case aS => exact (az bes)); (case aL => have := LMc29.out; omega); intro v324 w30 ho hb hg hat; rw [← Ny323.out] at ho; refine ax3 (mi (g := gb319) (o := .cells #[.int .i64 a1_0, .int .i64 a1_1, .int .i64 a1_2, .slice A1_3 l1_3.length c1_3] 35 (0, 0)) (kb BK319) hg (by simp [Value.ownBlock])) hb ho ?_; clear BK319; clear HB; intro BK319 HB HO325; clear ho hb hg hat))
       go_loopg [57] k2 (fun kq v57 w' => ∃ (x14_3 : List Int) (x57_3 : Int), v57 = .int .i64 x57_3 ∧ aa (ai.l1 kq a2 a3 (l4.length : Int) x14_3 (l4.length : Int) x57_3 a1_0 a1_1 a1_2 l1_3 = some (r1, r2)) ∧ aa (kq ≤ k2) ∧ aa (Kd.R (Kd.int .u64) 24 w' w.heap.size (fun _ => True) v324 x14_3) ∧ aa (w'.heap[gb319]? = some (.cells #[.int .i64 a1_0, .int .i64 a1_1, .int .i64 a1_2, (.slice A1_3 l1_3.length c1_3)] 35 (0, 0))) ∧ aa (Below w.heap.size w w'))
       case atStart => exact ⟨(y323), (0), (by first | rfl | (simp; done) | (simp [*]; done)), H', ⟨Nat.le_refl _⟩, ⟨kr HO325⟩, ⟨kb BK319⟩, ⟨bes⟩⟩
       case round =>
        clear H'
        obtain ⟨x14_3, x57_3, rfl, HA, HK3, HO_14, BK319, HB⟩ := hrel; cases gk with
        | zero => exact absurd HA.out (by simp [ai.l1])
        | succ k3 =>
         have H := HA.out; clear HA; simp only [ai.l1] at H
         by_cases c31 : x57_3 < (l4.length : Int)
         rotate_left
         ·
          rw [if_neg c31] at H; have c31b0 := decide_eq_false c31; clear c31; simp only [Option.some.injEq, Prod.mk.injEq] at H; obtain ⟨rfl, rfl⟩ := H; go_wp2
          go_ret2
          exact ⟨_, er, kr HO_14, bes⟩
         rw [if_pos c31] at H; have c31b0 := decide_eq_true c31; clear c31; have HC32 := aa.mk H; clear H
         go_upto_if 61 with (fail)
         go_cut [16] (fun v16 wc => ∃ (kq : Nat) (x16_31 : Int), v16 = .int .i64 x16_31 ∧ aa (ai.j3 kq a2 a3 (l4.length : Int) x14_3 x16_31 (l4.length : Int) x57_3 a1_0 a1_1 a1_2 l1_3 = some (r1, r2)) ∧ aa (kq ≤ k3) ∧ aa (Kd.R (Kd.int .u64) 24 wc w.heap.size (fun _ => True) v324 x14_3) ∧ aa (wc.heap[gb319]? = some (.cells #[.int .i64 a1_0, .int .i64 a1_1, .int .i64 a1_2, (.slice A1_3 l1_3.length c1_3)] 35 (0, 0))) ∧ aa (Below w.heap.size w wc))
         case first =>
          have H := HC32.out; clear HC32
          by_cases c33 : a2 = true
          ·
           subst c33; rw [if_pos rfl] at H; have H' := aa.mk H; clear H; go_wp2; go_meet
           case rel => exact ⟨_, (wrap64 ((wrap64 ((l4.length : Int) - 1)) - x57_3)), (by first | rfl | (simp; done) | (simp [*]; done)), H', ⟨by have := HJ5.out; have := HK2.out; have := HK3.out; first | omega | exact Nat.le_refl _⟩, ⟨kr HO_14⟩, ⟨kb BK319⟩, ⟨bes⟩⟩
          ·
           replace c33 := Bool.eq_false_iff.mpr c33; subst c33; rw [if_neg (show ¬ (false = true) by decide)] at H; have H' := aa.mk H; clear H; go_wp2; go_meet
           case rel => exact ⟨_, (x57_3), (by first | rfl | (simp; done) | (simp [*]; done)), H', ⟨by have := HJ5.out; have := HK2.out; have := HK3.out; first | omega | exact Nat.le_refl _⟩, ⟨kr HO_14⟩, ⟨kb BK319⟩, ⟨bes⟩⟩
         case rest =>
          clear HC32
          obtain ⟨kq, x16_31, rfl, HA, HJ31, HO_14, BK319, HB⟩ := hcut; cases kq with
          | zero => exact absurd HA.out (by simp [ai.j3])
          | succ kj31 =>
           have H := HA.out; clear HA; simp only [ai.j3] at H; have HC34 := aa.mk H; clear H
           go_upto_region 17 with (fail)
           go_cut [17, 18] (fun v17 v18 wc => ∃ (kq : Nat) (x17_33 : Int) (x18_33 : Int), v17 = .int .i64 x17_33 ∧ v18 = .int .i64 x18_33 ∧ aa (ai.j4 kq a2 a3 (l4.length : Int) x14_3 x16_31 x17_33 x18_33 (l4.length : Int) x57_3 a1_0 a1_1 a1_2 l1_3 = some (r1, r2)) ∧ aa (kq ≤ kj31) ∧ aa (Kd.R (Kd.int .u64) 24 wc w.heap.size (fun _ => True) v324 x14_3) ∧ aa (wc.heap[gb319]? = some (.cells #[.int .i64 a1_0, .int .i64 a1_1, .int .i64 a1_2, (.slice A1_3 l1_3.length c1_3)] 35 (0, 0))) ∧ aa (Below w.heap.size w wc))
           case first =>
            have H := HC34.out; clear HC34
            by_cases c35 : a2 = true
            ·
             subst c35; rw [if_pos rfl] at H; obtain ⟨t326, A36, H⟩ := ob H; (try dsimp -simprocs only at H); obtain ⟨⟨t327, t328⟩, A37, H⟩ := ob H; (try dsimp -simprocs only at H); have H' := aa.mk H; clear H
             go_wp2_with (first | ((with_reducible refine ag (f := 38) rfl ?_); refine df (some 68) rfl rfl Tryd.func38 (by kernel_rfl) rfl #[.bool true] rfl ga ?_; (with_reducible refine (zy.calls true t326 _ A36.out).mono ?_); rintro e w38 ⟨rfl, hb⟩; refine ⟨_, rfl, ?_⟩; refine ax3 (Kd.cu (kr HO_14) hb) (bb BK319 hb) (af bes hb) ?_; clear HO_14; clear BK319; clear HB; intro HO_14 BK319 HB; (try clear hb)) | (go_at_call 60; (with_reducible refine (zu.calls x16_31 (l4.length : Int) t327 t328 _ A37.out).mono ?_); rintro e w' ⟨rfl, ⟨nd, rfl⟩⟩))
             go_meet
             case rel => exact ⟨_, (t327), (t328), (by first | rfl | (simp; done) | (simp [*]; done)), (by first | rfl | (simp; done) | (simp [*]; done)), H', ⟨by have := HJ5.out; have := HK2.out; have := HK3.out; have := HJ31.out; first | omega | exact Nat.le_refl _⟩, ⟨kr HO_14⟩, ⟨kb BK319⟩, ⟨bes⟩⟩
            ·
             replace c35 := Bool.eq_false_iff.mpr c35; subst c35; rw [if_neg (show ¬ (false = true) by decide)] at H; obtain ⟨t329, A39, H⟩ := ob H; (try dsimp -simprocs only at H); obtain ⟨⟨t330, t331⟩, A40, H⟩ := ob H; (try dsimp -simprocs only at H); have H' := aa.mk H; clear H
             go_wp2_with (first | ((with_reducible refine ag (f := 38) rfl ?_); refine df (some 68) rfl rfl Tryd.func38 (by kernel_rfl) rfl #[.bool false] rfl ga ?_; (with_reducible refine (zq.calls false t329 _ A39.out).mono ?_); rintro e w41 ⟨rfl, hb⟩; refine ⟨_, rfl, ?_⟩; refine ax3 (Kd.cu (kr HO_14) hb) (bb BK319 hb) (af bes hb) ?_; clear HO_14; clear BK319; clear HB; intro HO_14 BK319 HB; (try clear hb)) | (go_at_call 61; (with_reducible refine (zt.calls x16_31 (l4.length : Int) t330 t331 _ A40.out).mono ?_); rintro e w' ⟨rfl, ⟨nd, rfl⟩⟩))
             go_meet
             case rel => exact ⟨_, (t330), (t331), (by first | rfl | (simp; done) | (simp [*]; done)), (by first | rfl | (simp; done) | (simp [*]; done)), H', ⟨by have := HJ5.out; have := HK2.out; have := HK3.out; have := HJ31.out; first | omega | exact Nat.le_refl _⟩, ⟨kr HO_14⟩, ⟨kb BK319⟩, ⟨bes⟩⟩
           case rest =>
            clear HC34
            obtain ⟨kq, x17_33, x18_33, rfl, rfl, HA, HJ33, HO_14, BK319, HB⟩ := hcut; cases kq with
            | zero => exact absurd HA.out (by simp [ai.j4])
            | succ kj33 =>
             have H := HA.out; clear HA; simp only [ai.j4] at H; have H' := aa.mk H; clear H; go_wp2
             go_loopg [19] kj33 (fun kq v19 w' => ∃ (x14_6 : List Int) (x19_6 : Int), v19 = .int .i64 x19_6 ∧ aa (ai.l2 kq a2 a3 (l4.length : Int) x14_6 x16_31 x18_33 x19_6 (l4.length : Int) x57_3 a1_0 a1_1 a1_2 l1_3 = some (r1, r2)) ∧ aa (kq ≤ kj33) ∧ aa (Kd.R (Kd.int .u64) 24 w' w.heap.size (fun _ => True) v324 x14_6) ∧ aa (w'.heap[gb319]? = some (.cells #[.int .i64 a1_0, .int .i64 a1_1, .int .i64 a1_2, (.slice A1_3 l1_3.length c1_3)] 35 (0, 0))) ∧ aa (Below w.heap.size w w'))
             case atStart => exact ⟨(x14_3), (x17_33), (by first | rfl | (simp; done) | (simp [*]; done)), H', ⟨Nat.le_refl _⟩, ⟨kr HO_14⟩, ⟨kb BK319⟩, ⟨bes⟩⟩
             case round =>
              clear H'
              obtain ⟨x14_6, x19_6, rfl, HA, HK6, HO_14, BK319, HB⟩ := hrel; cases gk with
              | zero => exact absurd HA.out (by simp [ai.l2])
              | succ k6 =>
               have H := HA.out; clear HA; simp only [ai.l2] at H
               by_cases c42 : x19_6 < x18_33
               ·
                rw [if_pos c42] at H; have c42b0 := decide_eq_true c42; clear c42
                by_cases c43 : 0 ≤ x16_31
                rotate_left
                ·
                 rw [if_neg c43] at H; exact absurd H (by simp)
                rw [if_pos c43] at H; have c43b0 := decide_eq_true c43; clear c43
                by_cases c44 : x16_31 < (x14_6.length : Int)
                rotate_left
                ·
                 rw [if_neg c44] at H; exact absurd H (by simp)
                rw [if_pos c44] at H; have c44b0 := decide_eq_true c44; clear c44; obtain ⟨t333, A45, H⟩ := ob H; (try dsimp -simprocs only at H)
                by_cases c46 : 0 ≤ x19_6
                rotate_left
                ·
                 rw [if_neg c46] at H; exact absurd H (by simp)
                rw [if_pos c46] at H; have c46b0 := decide_eq_true c46; clear c46
                by_cases c47 : x19_6 < (x14_6.length : Int)
                rotate_left
                ·
                 rw [if_neg c47] at H; exact absurd H (by simp)
                rw [if_pos c47] at H; have c47b0 := decide_eq_true c47; clear c47; obtain ⟨t335, A48, H⟩ := ob H; (try dsimp -simprocs only at H); obtain ⟨t336, A49, H⟩ := ob H; (try dsimp -simprocs only at H); obtain ⟨y337, hy337⟩ : ∃ y_ : List Int, y_ = (x14_6.set (x16_31 : Int).toNat t336) := ⟨_, rfl⟩; replace H : (ai.l2 k6 a2 a3 (l4.length : Int) y337 x16_31 x18_33 (wrap64 (x19_6 + 1)) (l4.length : Int) x57_3 a1_0 a1_1 a1_2 l1_3) = some (r1, r2) := by first | (rw [hy337]; with_reducible exact H) | (have H2_ := (Option.bind_some _ _).symm.trans H; rw [hy337]; with_reducible exact H2_) | (have H2_ := (Option.bind_some _ _).symm.trans H; with_reducible exact H2_) | with_reducible exact H | (rw [hy337]; exact H) | exact H
                have Ny337 := aa.mk hy337; clear hy337; have H' := aa.mk H; clear H; obtain ⟨Ao51, co51, eo51⟩ := Kd.mg HO_14.out; subst eo51
                try go_wp2
                refine ax3 (Kd.jy HO_14.out) (dz BK319.out) (gy HB.out) ?_; clear HO_14 BK319 HB; intro HO_14 BK319 HB; have p332 : 0 ≤ (x16_31 : Int) := of_decide_eq_true (by first | (with_reducible assumption) | assumption); have q332 : x16_31 < (x14_6.length : Int) := of_decide_eq_true (by first | (with_reducible assumption) | assumption); obtain ⟨ad332, e332, hx332_0⟩ := Kd.lc (Kd.jq HO_14.out).2.2 x16_31 p332 q332; cases e332; replace p332 := eq_true p332; replace q332 := eq_true q332; have p334 : 0 ≤ (x19_6 : Int) := of_decide_eq_true (by first | (with_reducible assumption) | assumption); have q334 : x19_6 < (x14_6.length : Int) := of_decide_eq_true (by first | (with_reducible assumption) | assumption); obtain ⟨ad334, e334, hx334_0⟩ := Kd.lc (Kd.jq HO_14.out).2.2 x19_6 p334 q334; obtain rfl : ad332 = ad334 := (by injection e334); replace p334 := eq_true p334; replace q334 := eq_true q334; refine vk (n := 20) (S := fun w' => w'.cell? ⟨gb319, 0, none⟩ = some (.int .i64 a1_0) ∧ w'.cell? ⟨gb319, 1, none⟩ = some (.int .i64 a1_1) ∧ w'.cell? ⟨gb319, 2, none⟩ = some (.int .i64 a1_2) ∧ w'.cell? ⟨gb319, 3, none⟩ = some (.slice A1_3 l1_3.length c1_3) ∧ w'.cell? (ad332.add (x16_31).toNat) = some (.int .u64 (rd x14_6 x16_31)) ∧ w'.cell? (ad332.add (x19_6).toNat) = some (.int .u64 (rd x14_6 x19_6))) (ds := [19]) #[false, false, false, false, false, false, false, false, false, false, false, false, false, false, false, false, false, false, false, false] (by kernel_rfl) rfl rfl ⟨bk BK319 0, bk BK319 1, bk BK319 2, bk BK319 3, hx332_0, hx334_0⟩ (fun hHeld => ?_); refine qa ai.tab21 ai.bits21 (fun HT_ HW_ => ?_)
                generalize wr.drew = w52 at HO_14 BK319 HB hx332_0 hx334_0 hHeld ⊢
                refine pu 0 81 (lm 20 1) HT_ ?_; refine pu 1 82 (lm 20 3) HT_ ?_; refine pu 2 83 (lm 20 7) HT_ ?_; refine pu 3 84 (lm 20 15) HT_ ?_; refine pu 4 85 (lm 20 31) HT_ ?_; refine pu 5 86 (lm 20 63) HT_ ?_; refine pu 7 88 (lm 20 191) HT_ ?_; refine pu 9 90 (lm 20 703) HT_ ?_; refine pu 10 91 (lm 20 1727) HT_ ?_; refine pu 12 93 (lm 20 5823) HT_ ?_; refine pu 13 94 (lm 20 14015) HT_ ?_; refine pu 14 95 (lm 20 30399) HT_ ?_; refine ta 6 87 (lm 20 30463) HT_ HW_ hHeld ?_; refine ta 8 89 (lm 20 30719) HT_ HW_ hHeld ?_; refine ta 15 96 (lm 20 63487) HT_ HW_ hHeld ?_; refine on 11 (some 92) (lm 20 65535) HT_ (fun K hK => ?_); refine qd Tryd.func19 (by kernel_rfl) rfl #[.agg #[.int .i64 a1_0, .int .i64 a1_1, .int .i64 a1_2, .slice A1_3 l1_3.length c1_3], .int .i64 x16_31, .int .i64 x19_6] (by rfl) rfl rfl ga ?_
                with_reducible refine (je.calls a1_0 a1_1 a1_2 _ _ l1_3 x16_31 x19_6 t333 _ ?side1 ?side2 A45.out).mono ?_
                (case side1 => repeat (first | exact (Kd.uo HR1_3.out HB.out) | (with_reducible refine Kd.vo ?_ _) | (with_reducible refine Kd.wz ?_ _) | (with_reducible refine Kd.yl ?_))); (case side2 => exact HC1_3.out); rintro e w53 ⟨rfl, hb⟩; have HS4_ := (hb.cell (World.block_lt_of_cell? _ _ (hHeld.2.2.2.2.1))).trans (hHeld.2.2.2.2.1); have HS5_ := (hb.cell (World.block_lt_of_cell? _ _ (hHeld.2.2.2.2.2))).trans (hHeld.2.2.2.2.2); refine ⟨_, rfl, ?_⟩; refine ax3 (Kd.cu (kr HO_14) hb) (bb BK319 hb) (af bes hb) ?_; clear HO_14 BK319 HB; intro HO_14 BK319 HB; refine hK.out _ _ ⟨bk BK319 0, bk BK319 1, bk BK319 2, bk BK319 3, HS4_, HS5_⟩ (fun hHeld => ?_); clear hK K; refine no 92 ?_; refine on 16 (some 97) (lm 20 131071) HT_ (fun K hK => ?_); refine qd Tryd.func37 (by kernel_rfl) rfl #[.pointer none, .int .u64 t333, .int .u64 (rd x14_6 x19_6)] (by rfl) rfl rfl ga ?_
                with_reducible refine (nu.calls k6  t333 (rd x14_6 x19_6) t335 _ A48.out).mono ?_
                rintro e w54 ⟨rfl, hb⟩; have HS4_ := (hb.cell (World.block_lt_of_cell? _ _ (hHeld.2.2.2.2.1))).trans (hHeld.2.2.2.2.1); have HS5_ := (hb.cell (World.block_lt_of_cell? _ _ (hHeld.2.2.2.2.2))).trans (hHeld.2.2.2.2.2); refine ⟨_, rfl, ?_⟩; refine ax3 (Kd.cu (kr HO_14) hb) (bb BK319 hb) (af bes hb) ?_; clear HO_14 BK319 HB; intro HO_14 BK319 HB; refine hK.out _ _ ⟨bk BK319 0, bk BK319 1, bk BK319 2, bk BK319 3, HS4_, HS5_⟩ (fun hHeld => ?_); clear hK K; refine no 97 ?_; refine on 17 (some 98) (lm 20 262143) HT_ (fun K hK => ?_); refine qd Tryd.func41 (by kernel_rfl) rfl #[.pointer none, .int .u64 (rd x14_6 x16_31), .int .u64 t335] (by rfl) rfl rfl ga ?_
                with_reducible refine (mq.calls k6  (rd x14_6 x16_31) t335 t336 _ A49.out).mono ?_
                rintro e w55 ⟨rfl, hb⟩; have HS4_ := (hb.cell (World.block_lt_of_cell? _ _ (hHeld.2.2.2.2.1))).trans (hHeld.2.2.2.2.1); have HS5_ := (hb.cell (World.block_lt_of_cell? _ _ (hHeld.2.2.2.2.2))).trans (hHeld.2.2.2.2.2); refine ⟨_, rfl, ?_⟩; refine ax3 (Kd.cu (kr HO_14) hb) (bb BK319 hb) (af bes hb) ?_; clear HO_14 BK319 HB; intro HO_14 BK319 HB; have p50 : 0 ≤ (x16_31 : Int) := of_decide_eq_true (by first | (with_reducible assumption) | assumption); have q50 : (x16_31 : Int) < ((x14_6.length : Int) : Int) := of_decide_eq_true (by first | (with_reducible assumption) | assumption); obtain ⟨go50, co50, eo50, gb50, gl50, cl50, HG50⟩ := Kd.Ca HO_14.out (by omega)
                (first | cases eo50 | (injection eo50 with ea_ en_ ec_; (first | subst ea_ | (injection ea_ with ea_; subst ea_)); subst ec_; clear en_))
                have GB50 := aa.mk gb50; have GG50 := aa.mk HG50; clear gb50 gl50 HG50
                (first | simp only [add_plain] at hx332_0 | skip)
                (first | simp only [add_plain] at hx334_0 | skip)
                obtain ⟨hx50_0, hf50_0⟩ := Kd.zn 0 HO_14.out (x16_31 : Int) p50 q50; replace p50 := eq_true p50; replace q50 := eq_true q50; have HP56 := Kd.Fh HO_14.out (x16_31 : Int) t336; rw [← Ny337.out] at HP56; have HQ56 := aa.mk HP56; clear HP56; refine hK.out _ _ ⟨bk BK319 0, bk BK319 1, bk BK319 2, bk BK319 3, HS4_, HS5_⟩ (fun hHeld => ?_); clear hK K; refine no 98 ?_; refine pu 18 99 (lm 20 524287) HT_ ?_; refine Ea (i := 19) (N := none) #[true, true, true, true, true, true, true, true, true, true, true, true, true, true, true, true, true, true, true, true] rfl rfl (Dc HT_.out (by kernel_rfl)) (by decide) (fun K hK => ?_); refine Av (w1 := ?_) (by rfl) rfl ?_ ?_; rotate_left
                ·
                 go_simp
                 rfl
                refine hK.out _ _ ?_; clear hK K; refine zg (uy HT_.out (by kernel_rfl)) ?_
                try go_wp2
                go_roundg k6
                case measure => have := HJ5.out; have := HK2.out; have := HK3.out; have := HJ31.out; have := HJ33.out; have := HK6.out; omega
                case rel => exact ⟨(y337), (wrap64 (x19_6 + 1)), (by first | rfl | (simp; done) | (simp [*]; done)), H', ⟨by have := HJ5.out; have := HK2.out; have := HK3.out; have := HJ31.out; have := HJ33.out; have := HK6.out; omega⟩, ⟨kr HQ56⟩, ⟨by (with_reducible repeat (first | refine jk ?_ _ | refine dz ?_ | refine jb ?_ _)); refine yj ?_ (by have h_ := Kd.vg HO_14.out BK319.out (by decide); intro e_; exact h_ (by rw [e_]; rfl)) _; (with_reducible repeat (first | refine jk ?_ _ | refine dz ?_ | refine jb ?_ _)); exact BK319.out⟩, ⟨bes⟩⟩
               ·
                rw [if_neg c42] at H; have c42b0 := decide_eq_false c42; clear c42
                by_cases c57 : a3 = true
                ·
                 subst c57; rw [if_pos rfl] at H; have H' := aa.mk H; clear H; go_wp2
                 go_roundg k6
                 case measure => have := HJ5.out; have := HK2.out; have := HK3.out; have := HJ31.out; have := HJ33.out; have := HK6.out; omega
                 case rel => exact ⟨(x14_6), (wrap64 (x57_3 + 1)), (by first | rfl | (simp; done) | (simp [*]; done)), H', ⟨by have := HJ5.out; have := HK2.out; have := HK3.out; have := HJ31.out; have := HJ33.out; have := HK6.out; omega⟩, ⟨kr HO_14⟩, ⟨kb BK319⟩, ⟨bes⟩⟩
                ·
                 replace c57 := Bool.eq_false_iff.mpr c57; subst c57; rw [if_neg (show ¬ (false = true) by decide)] at H
                 by_cases c58 : 0 ≤ x16_31
                 rotate_left
                 ·
                  rw [if_neg c58] at H; exact absurd H (by simp)
                 rw [if_pos c58] at H; have c58b0 := decide_eq_true c58; clear c58
                 by_cases c59 : x16_31 < (x14_6.length : Int)
                 rotate_left
                 ·
                  rw [if_neg c59] at H; exact absurd H (by simp)
                 rw [if_pos c59] at H; have c59b0 := decide_eq_true c59; clear c59; obtain ⟨t339, A60, H⟩ := ob H; (try dsimp -simprocs only at H); obtain ⟨t340, A61, H⟩ := ob H; (try dsimp -simprocs only at H); obtain ⟨y341, hy341⟩ : ∃ y_ : List Int, y_ = (x14_6.set (x16_31 : Int).toNat t340) := ⟨_, rfl⟩; replace H : (ai.l1 k6 a2 false (l4.length : Int) y341 (l4.length : Int) (wrap64 (x57_3 + 1)) a1_0 a1_1 a1_2 l1_3) = some (r1, r2) := by first | (rw [hy341]; with_reducible exact H) | (have H2_ := (Option.bind_some _ _).symm.trans H; rw [hy341]; with_reducible exact H2_) | (have H2_ := (Option.bind_some _ _).symm.trans H; with_reducible exact H2_) | with_reducible exact H | (rw [hy341]; exact H) | exact H
                 have Ny341 := aa.mk hy341; clear hy341; have H' := aa.mk H; clear H; obtain ⟨Ao63, co63, eo63⟩ := Kd.mg HO_14.out; subst eo63
                 try go_wp2
                 refine ax3 (Kd.jy HO_14.out) (dz BK319.out) (gy HB.out) ?_; clear HO_14 BK319 HB; intro HO_14 BK319 HB; have p338 : 0 ≤ (x16_31 : Int) := of_decide_eq_true (by first | (with_reducible assumption) | assumption); have q338 : x16_31 < (x14_6.length : Int) := of_decide_eq_true (by first | (with_reducible assumption) | assumption); obtain ⟨ad338, e338, hx338_0⟩ := Kd.lc (Kd.jq HO_14.out).2.2 x16_31 p338 q338; cases e338; replace p338 := eq_true p338; replace q338 := eq_true q338; refine vk (n := 14) (S := fun w' => w'.cell? ⟨gb319, 0, none⟩ = some (.int .i64 a1_0) ∧ w'.cell? ⟨gb319, 1, none⟩ = some (.int .i64 a1_1) ∧ w'.cell? ⟨gb319, 2, none⟩ = some (.int .i64 a1_2) ∧ w'.cell? ⟨gb319, 3, none⟩ = some (.slice A1_3 l1_3.length c1_3) ∧ w'.cell? (ad338.add (x16_31).toNat) = some (.int .u64 (rd x14_6 x16_31))) (ds := [13]) #[false, false, false, false, false, false, false, false, false, false, false, false, false, false] (by kernel_rfl) rfl rfl ⟨bk BK319 0, bk BK319 1, bk BK319 2, bk BK319 3, hx338_0⟩ (fun hHeld => ?_); refine qa ai.tab23 ai.bits23 (fun HT_ HW_ => ?_)
                 generalize wr.drew = w64 at HO_14 BK319 HB hx338_0 hHeld ⊢
                 refine pu 0 102 (lm 14 1) HT_ ?_; refine pu 1 103 (lm 14 3) HT_ ?_; refine pu 2 104 (lm 14 7) HT_ ?_; refine pu 3 105 (lm 14 15) HT_ ?_; refine pu 4 106 (lm 14 31) HT_ ?_; refine pu 5 107 (lm 14 63) HT_ ?_; refine pu 8 110 (lm 14 319) HT_ ?_; refine pu 9 111 (lm 14 831) HT_ ?_; refine ta 6 108 (lm 14 895) HT_ HW_ hHeld ?_; refine ta 7 109 (lm 14 1023) HT_ HW_ hHeld ?_; refine on 10 (some 112) (lm 14 2047) HT_ (fun K hK => ?_); refine qd Tryd.func19 (by kernel_rfl) rfl #[.agg #[.int .i64 a1_0, .int .i64 a1_1, .int .i64 a1_2, .slice A1_3 l1_3.length c1_3], .int .i64 x16_31, .int .i64 x16_31] (by rfl) rfl rfl ga ?_
                 with_reducible refine (je.calls a1_0 a1_1 a1_2 _ _ l1_3 x16_31 x16_31 t339 _ ?side1 ?side2 A60.out).mono ?_
                 (case side1 => repeat (first | exact (Kd.uo HR1_3.out HB.out) | (with_reducible refine Kd.vo ?_ _) | (with_reducible refine Kd.wz ?_ _) | (with_reducible refine Kd.yl ?_))); (case side2 => exact HC1_3.out); rintro e w65 ⟨rfl, hb⟩; have HS4_ := (hb.cell (World.block_lt_of_cell? _ _ (hHeld.2.2.2.2))).trans (hHeld.2.2.2.2); refine ⟨_, rfl, ?_⟩; refine ax3 (Kd.cu (kr HO_14) hb) (bb BK319 hb) (af bes hb) ?_; clear HO_14 BK319 HB; intro HO_14 BK319 HB; refine hK.out _ _ ⟨bk BK319 0, bk BK319 1, bk BK319 2, bk BK319 3, HS4_⟩ (fun hHeld => ?_); clear hK K; refine no 112 ?_; refine on 11 (some 113) (lm 14 4095) HT_ (fun K hK => ?_); refine qd Tryd.func42 (by kernel_rfl) rfl #[.pointer none, .int .u64 (rd x14_6 x16_31), .int .u64 t339] (by rfl) rfl rfl ga ?_
                 with_reducible refine (mo.calls k6  (rd x14_6 x16_31) t339 t340 _ A61.out).mono ?_
                 rintro e w66 ⟨rfl, hb⟩; have HS4_ := (hb.cell (World.block_lt_of_cell? _ _ (hHeld.2.2.2.2))).trans (hHeld.2.2.2.2); refine ⟨_, rfl, ?_⟩; refine ax3 (Kd.cu (kr HO_14) hb) (bb BK319 hb) (af bes hb) ?_; clear HO_14 BK319 HB; intro HO_14 BK319 HB; have p62 : 0 ≤ (x16_31 : Int) := of_decide_eq_true (by first | (with_reducible assumption) | assumption); have q62 : (x16_31 : Int) < ((x14_6.length : Int) : Int) := of_decide_eq_true (by first | (with_reducible assumption) | assumption); obtain ⟨go62, co62, eo62, gb62, gl62, cl62, HG62⟩ := Kd.Ca HO_14.out (by omega)
                 (first | cases eo62 | (injection eo62 with ea_ en_ ec_; (first | subst ea_ | (injection ea_ with ea_; subst ea_)); subst ec_; clear en_))
                 have GB62 := aa.mk gb62; have GG62 := aa.mk HG62; clear gb62 gl62 HG62
                 (first | simp only [add_plain] at hx338_0 | skip)
                 obtain ⟨hx62_0, hf62_0⟩ := Kd.zn 0 HO_14.out (x16_31 : Int) p62 q62; replace p62 := eq_true p62; replace q62 := eq_true q62; have HP67 := Kd.Fh HO_14.out (x16_31 : Int) t340; rw [← Ny341.out] at HP67; have HQ67 := aa.mk HP67; clear HP67; refine hK.out _ _ ⟨bk BK319 0, bk BK319 1, bk BK319 2, bk BK319 3, HS4_⟩ (fun hHeld => ?_); clear hK K; refine no 113 ?_; refine pu 12 114 (lm 14 8191) HT_ ?_; refine Ea (i := 13) (N := none) #[true, true, true, true, true, true, true, true, true, true, true, true, true, true] rfl rfl (Dc HT_.out (by kernel_rfl)) (by decide) (fun K hK => ?_); refine Av (w1 := ?_) (by rfl) rfl ?_ ?_; rotate_left
                 ·
                  go_simp
                  rfl
                 refine hK.out _ _ ?_; clear hK K; refine zg (uy HT_.out (by kernel_rfl)) ?_
                 try go_wp2
                 go_roundg k6
                 case measure => have := HJ5.out; have := HK2.out; have := HK3.out; have := HJ31.out; have := HJ33.out; have := HK6.out; omega
                 case rel => exact ⟨(y341), (wrap64 (x57_3 + 1)), (by first | rfl | (simp; done) | (simp [*]; done)), H', ⟨by have := HJ5.out; have := HK2.out; have := HK3.out; have := HJ31.out; have := HJ33.out; have := HK6.out; omega⟩, ⟨kr HQ67⟩, ⟨by (with_reducible repeat (first | refine jk ?_ _ | refine dz ?_ | refine jb ?_ _)); refine yj ?_ (by have h_ := Kd.vg HO_14.out BK319.out (by decide); intro e_; exact h_ (by rw [e_]; rfl)) _; (with_reducible repeat (first | refine jk ?_ _ | refine dz ?_ | refine jb ?_ _)); exact BK319.out⟩, ⟨bes⟩⟩
end Go.Proofs.YtnjobojkoaknpaaDoor.F
