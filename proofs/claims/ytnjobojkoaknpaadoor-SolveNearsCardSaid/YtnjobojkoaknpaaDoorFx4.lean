-- Written by a program of this seat's session (mkprint), out of the translation.
import Derived.Test.YtnjobojkoaknpaaDoorShort
import Derived.Test.YtnjobojkoaknpaaDoorFx0
import Derived.Test.YtnjobojkoaknpaaDoorFx2
import Derived.Test.YtnjobojkoaknpaaDoorFx3
namespace Go.Proofs.YtnjobojkoaknpaaDoor.F
open Go.RowKit Go.Proofs.YtnjobojkoaknpaaDoorW.PrintWords Go.Proofs.YtnjobojkoaknpaaDoorW.PrintLast Go.Proofs.YtnjobojkoaknpaaDoorW.PrintMore
attribute [local go_sem] uh uf vv vw qw qp tu ui   -- for this text's walks alone
set_option linter.unusedVariables false
set_option linter.unusedSimpArgs false

/-! ### aj: function 35 -/
mutual
def aj.j0 : Nat → Bool → Int → Bool → Int → Bool → Int → Int → Option (Int × Int)
 | 0, _, _, _, _, _, _, _ => none
 | k + 1, x0, x2, x3, x10, x11, x135000, x135001 => if x10 > 0 then ((ax.f k x135000 x135001 x10).bind fun bt140 => ((qo.f k x135000 x135001 x10 bt140.2.2).bind fun bt144 => (if bt144.1 = true then (aj.j1 k x0 x2 x3 x10 x11 true bt144.1 bt144.2 bt140.1 bt140.2.1) else (if bt144.2 = true then (aj.j1 k x0 x2 x3 x10 x11 true bt144.1 bt144.2 bt140.1 bt140.2.1) else (aj.j1 k x0 x2 x3 x10 x11 x3 bt144.1 bt144.2 bt140.1 bt140.2.1))))) else (if x10 < 0 then (aj.j3 k x0 x2 x10 x11 x3 (!x3) x135000 x135001) else (aj.j3 k x0 x2 x10 x11 x3 false x135000 x135001))
def aj.j4 : Nat → Bool → Int → Int → Bool → Bool → Int → Int → Option (Int × Int)
 | 0, _, _, _, _, _, _, _ => none
 | k + 1, x0, x2, x10, x11, x12, x135000, x135001 => if x135001 = 9007199254740992 then (aj.j5 k x0 (wrap64 ((wrap64 (x2 + x10)) + 1)) x11 x12 (x135001 / 2)) else (aj.j5 k x0 (wrap64 (x2 + x10)) x11 x12 x135001)
def aj.j5 : Nat → Bool → Int → Bool → Bool → Int → Option (Int × Int)
 | 0, _, _, _, _, _ => none
 | k + 1, x0, x2, x11, x12, x16 => if x12 = true then (if x11 = true then (aj.j6 k x0 x2 x16 (Go.bits .or .u8 (Go.bits .or .u8 0 1) 2)) else (aj.j6 k x0 x2 x16 (Go.bits .or .u8 0 1))) else (aj.j6 k x0 x2 x16 0)
def aj.j6 : Nat → Bool → Int → Int → Int → Option (Int × Int)
 | 0, _, _, _, _ => none
 | k + 1, x0, x2, x16, x17 => if x16 < 4503599627370496 then ((ko.f x0 0 x16).bind fun t153 => (some (t153, x17))) else (if (wrap64 (x2 + 1075)) ≥ 2047 then ((ko.f x0 2047 0).bind fun t154 => (some (t154, Go.bits .or .u8 (Go.bits .or .u8 x17 4) 1))) else ((ko.f x0 (wrap64 (x2 + 1075)) x16).bind fun t155 => (some (t155, x17))))
def aj.j1 : Nat → Bool → Int → Bool → Int → Bool → Bool → Bool → Bool → Int → Int → Option (Int × Int)
 | 0, _, _, _, _, _, _, _, _, _, _ => none
 | k + 1, x0, x2, x3, x10, x11, x12, x13, x15, x144000, x144001 => if x13 = true then (if x15 = true then (aj.j2 k x0 x2 x10 x11 x12 true x144000 x144001) else (if x3 = true then (aj.j2 k x0 x2 x10 x11 x12 true x144000 x144001) else (aj.j2 k x0 x2 x10 x11 x12 ((Go.bits .and .u64 x144001 1) == 1) x144000 x144001))) else (aj.j2 k x0 x2 x10 x11 x12 false x144000 x144001)
def aj.j2 : Nat → Bool → Int → Int → Bool → Bool → Bool → Int → Int → Option (Int × Int)
 | 0, _, _, _, _, _, _, _, _ => none
 | k + 1, x0, x2, x10, x11, x12, x79, x135000, x135001 => if x79 = true then ((o8.f x135000 x135001 0 1).bind fun bt146 => (aj.j4 k x0 x2 x10 x11 x12 bt146.1 bt146.2.1)) else (aj.j4 k x0 x2 x10 x11 x12 x135000 x135001)
def aj.j3 : Nat → Bool → Int → Int → Bool → Bool → Bool → Int → Int → Option (Int × Int)
 | 0, _, _, _, _, _, _, _, _ => none
 | k + 1, x0, x2, x10, x11, x12, x91, x135000, x135001 => if x91 = true then ((ic.f x135000 x135001 (wrap64 (-x10))).bind fun bt149 => (aj.j4 k x0 x2 x10 x11 x12 bt149.1 bt149.2)) else (if x10 < 0 then ((ic.f x135000 x135001 (wrap64 (-x10))).bind fun bt151 => (aj.j4 k x0 x2 x10 x11 x12 bt151.1 bt151.2)) else (aj.j4 k x0 x2 x10 x11 x12 x135000 x135001))
end
def aj.f (k : Nat) (a0 : Bool) (a1_0 : Int) (a1_1 : Int) (a2 : Int) (a3 : Bool) : Option (Int × Int) := (lg.f a1_0 a1_1).bind fun t135 => (if t135 = true then (if a3 = true then ((ko.f a0 0 0).bind fun t137 => (some (t137, 3))) else ((ko.f a0 0 0).bind fun t136 => (some (t136, 0)))) else ((jd.f k a1_0 a1_1).bind fun t138 => ((jd.f k a1_0 a1_1).bind fun t139 => (if (wrap64 ((mx (-100000) (mn a2 100000)) + (wrap64 (t138 - 53)))) < (-1074) then (aj.j0 k a0 (mx (-100000) (mn a2 100000)) a3 ((-1074) - (mx (-100000) (mn a2 100000))) (decide ((wrap64 ((mx (-100000) (mn a2 100000)) + t139)) < (-1021))) a1_0 a1_1) else (aj.j0 k a0 (mx (-100000) (mn a2 100000)) a3 (wrap64 (t138 - 53)) (decide ((wrap64 ((mx (-100000) (mn a2 100000)) + t139)) < (-1021))) a1_0 a1_1)))))
theorem aj.jm : ∀ k, (∀ y0 y1 y2 y3 y4 y5 y6, LeO (aj.j0 k y0 y1 y2 y3 y4 y5 y6) (aj.j0 (k + 1) y0 y1 y2 y3 y4 y5 y6)) ∧ (∀ y0 y1 y2 y3 y4 y5 y6, LeO (aj.j4 k y0 y1 y2 y3 y4 y5 y6) (aj.j4 (k + 1) y0 y1 y2 y3 y4 y5 y6)) ∧ (∀ y0 y1 y2 y3 y4, LeO (aj.j5 k y0 y1 y2 y3 y4) (aj.j5 (k + 1) y0 y1 y2 y3 y4)) ∧ (∀ y0 y1 y2 y3, LeO (aj.j6 k y0 y1 y2 y3) (aj.j6 (k + 1) y0 y1 y2 y3)) ∧ (∀ y0 y1 y2 y3 y4 y5 y6 y7 y8 y9, LeO (aj.j1 k y0 y1 y2 y3 y4 y5 y6 y7 y8 y9) (aj.j1 (k + 1) y0 y1 y2 y3 y4 y5 y6 y7 y8 y9)) ∧ (∀ y0 y1 y2 y3 y4 y5 y6 y7, LeO (aj.j2 k y0 y1 y2 y3 y4 y5 y6 y7) (aj.j2 (k + 1) y0 y1 y2 y3 y4 y5 y6 y7)) ∧ (∀ y0 y1 y2 y3 y4 y5 y6 y7, LeO (aj.j3 k y0 y1 y2 y3 y4 y5 y6 y7) (aj.j3 (k + 1) y0 y1 y2 y3 y4 y5 y6 y7))
 | 0 => ⟨fun _ _ _ _ _ _ _ r h => by simp [aj.j0] at h, fun _ _ _ _ _ _ _ r h => by simp [aj.j4] at h, fun _ _ _ _ _ r h => by simp [aj.j5] at h, fun _ _ _ _ r h => by simp [aj.j6] at h, fun _ _ _ _ _ _ _ _ _ _ r h => by simp [aj.j1] at h, fun _ _ _ _ _ _ _ _ r h => by simp [aj.j2] at h, fun _ _ _ _ _ _ _ _ r h => by simp [aj.j3] at h⟩
 | k + 1 => by
  obtain ⟨ih0, ih1, ih2, ih3, ih4, ih5, ih6⟩ := aj.jm k
  refine ⟨?_, ?_, ?_, ?_, ?_, ?_, ?_⟩ <;> intros <;> (first | unfold aj.j0 | unfold aj.j4 | unfold aj.j5 | unfold aj.j6 | unfold aj.j1 | unfold aj.j2 | unfold aj.j3) <;>
   repeat' with_reducible first | apply ih0 | apply ih1 | apply ih2 | apply ih3 | apply ih4 | apply ih5 | apply ih6 | apply qo.mono | apply jd.mono | apply ax.mono | exact LeO.refl _ | exact LeO.none _ | refine LeO.ite ?_ ?_ | refine LeO.bind ?_ (fun _ => ?_)
theorem aj.mono : ∀ a0 a1 a2 a3 a4 k, LeO (aj.f k a0 a1 a2 a3 a4) (aj.f (k + 1) a0 a1 a2 a3 a4) := by
 intro a0 a1 a2 a3 a4 k; obtain ⟨ih0, ih1, ih2, ih3, ih4, ih5, ih6⟩ := aj.jm k
 unfold aj.f
 repeat' with_reducible first | apply ih0 | apply ih1 | apply ih2 | apply ih3 | apply ih4 | apply ih5 | apply ih6 | apply qo.mono | apply jd.mono | apply ax.mono | exact LeO.refl _ | exact LeO.none _ | refine LeO.ite ?_ ?_ | refine LeO.bind ?_ (fun _ => ?_)
set_option maxHeartbeats 8000000 in
set_option maxRecDepth 100000 in
theorem aj.calls (k : Nat) (a0 : Bool) (a1_0 : Int) (a1_1 : Int) (a2 : Int) (a3 : Bool) (r1 : Int) (r2 : Int) (w : World) (h : aj.f k a0 a1_0 a1_1 a2 a3 = some (r1, r2)) :
  Calls Tryd.prog 35 #[.bool a0, .agg #[.int .u64 a1_0, .int .u64 a1_1], .int .i64 a2, .bool a3] w fun e w' => e = .returned (.tuple #[.int .u64 r1, .int .u8 r2]) ∧ Below w.heap.size w w' := by
 have hu65 := Tryd.underlying65; have HB := aa.mk (Below.refl w.heap.size w); have H : ((lg.f a1_0 a1_1).bind fun t135 => (if t135 = true then (if a3 = true then ((ko.f a0 0 0).bind fun t137 => (some (t137, 3))) else ((ko.f a0 0 0).bind fun t136 => (some (t136, 0)))) else ((jd.f k a1_0 a1_1).bind fun t138 => ((jd.f k a1_0 a1_1).bind fun t139 => (if (wrap64 ((mx (-100000) (mn a2 100000)) + (wrap64 (t138 - 53)))) < (-1074) then (aj.j0 k a0 (mx (-100000) (mn a2 100000)) a3 ((-1074) - (mx (-100000) (mn a2 100000))) (decide ((wrap64 ((mx (-100000) (mn a2 100000)) + t139)) < (-1021))) a1_0 a1_1) else (aj.j0 k a0 (mx (-100000) (mn a2 100000)) a3 (wrap64 (t138 - 53)) (decide ((wrap64 ((mx (-100000) (mn a2 100000)) + t139)) < (-1021))) a1_0 a1_1)))))) = some (r1, r2) := h; clear h; obtain ⟨ji5, hji5⟩ : ∃ j_ : Int, (mn a2 100000) = j_ := ⟨_, rfl⟩; replace H : ((lg.f a1_0 a1_1).bind fun t135 => (if t135 = true then (if a3 = true then ((ko.f a0 0 0).bind fun t137 => (some (t137, 3))) else ((ko.f a0 0 0).bind fun t136 => (some (t136, 0)))) else ((jd.f k a1_0 a1_1).bind fun t138 => ((jd.f k a1_0 a1_1).bind fun t139 => (if (wrap64 ((mx (-100000) (ji5)) + (wrap64 (t138 - 53)))) < (-1074) then (aj.j0 k a0 (mx (-100000) (ji5)) a3 ((-1074) - (mx (-100000) (ji5))) (decide ((wrap64 ((mx (-100000) (ji5)) + t139)) < (-1021))) a1_0 a1_1) else (aj.j0 k a0 (mx (-100000) (ji5)) a3 (wrap64 (t138 - 53)) (decide ((wrap64 ((mx (-100000) (ji5)) + t139)) < (-1021))) a1_0 a1_1)))))) = some (r1, r2) := by first | (rw [hji5] at H; exact H) | (simp only [hji5] at H ⊢; exact H)
 (try (have hji5h : ji5 ≤ 100000 := by (rw [← hji5]; unfold mn; (repeat' split) <;> omega))); (try (have hji5g : ji5 ≤ 64 := by omega)); have hji5_ : (if 100000 < a2 then 100000 else a2) = ji5 := hji5; obtain ⟨ji6, hji6⟩ : ∃ j_ : Int, (mx (-100000) (ji5)) = j_ := ⟨_, rfl⟩; replace H : ((lg.f a1_0 a1_1).bind fun t135 => (if t135 = true then (if a3 = true then ((ko.f a0 0 0).bind fun t137 => (some (t137, 3))) else ((ko.f a0 0 0).bind fun t136 => (some (t136, 0)))) else ((jd.f k a1_0 a1_1).bind fun t138 => ((jd.f k a1_0 a1_1).bind fun t139 => (if (wrap64 ((ji6) + (wrap64 (t138 - 53)))) < (-1074) then (aj.j0 k a0 ji6 a3 ((-1074) - (ji6)) (decide ((wrap64 ((ji6) + t139)) < (-1021))) a1_0 a1_1) else (aj.j0 k a0 ji6 a3 (wrap64 (t138 - 53)) (decide ((wrap64 ((ji6) + t139)) < (-1021))) a1_0 a1_1)))))) = some (r1, r2) := by first | (rw [hji6] at H; exact H) | (simp only [hji6] at H ⊢; exact H)
 have hji6_ : (if (-100000) < (ji5) then (ji5) else (-100000)) = ji6 := hji6; obtain ⟨t135, A7, H⟩ := ob H; (try dsimp -simprocs only at H)
 by_cases c8 : t135 = true
 ·
  subst c8; rw [if_pos rfl] at H
  by_cases c9 : a3 = true
  ·
   subst c9; rw [if_pos rfl] at H; obtain ⟨t137, A10, H⟩ := ob H; (try dsimp -simprocs only at H); simp only [Option.some.injEq, Prod.mk.injEq] at H; obtain ⟨rfl, rfl⟩ := H; go_enter Tryd.func35, Tryd.ntmps35
   go_wp2_with (first | ((with_reducible refine bq (N := 5) rfl ?_); refine l5 (N := 5) (cs := #[.int .u64 a1_0, .int .u64 a1_1]) (t := 65) ?_; intro gb134 hg w11 hbox hb; refine ax4 (af bel hb) hbox ((ge hg : w.heap.size ≤ gb134)) ((ge hg : w.heap.size ≤ gb134)) ?_; clear HB; intro HB BK134 GW134 GE134; clear hb hbox hg; have ⟨_, _⟩ := cf BK134 0 rfl; have ⟨_, _⟩ := cf BK134 1 rfl) | ((with_reducible refine ag (f := 53) rfl ?_); refine df (some 22) rfl rfl Tryd.func53 (by kernel_rfl) rfl #[.agg #[.int .u64 a1_0, .int .u64 a1_1]] rfl ga ?_; (with_reducible refine (lg.calls a1_0 a1_1 true _ A7.out).mono ?_); rintro e w13 ⟨rfl, hb⟩; refine ⟨_, rfl, ?_⟩; refine ax2 (bb BK134 hb) (af bes hb) ?_; clear BK134; clear HB; intro BK134 HB; (try clear hb)) | ((with_reducible refine ag (f := 54) rfl ?_); refine df (some 28) rfl rfl Tryd.func54 (by kernel_rfl) rfl #[.bool a0, .int .i64 0, .int .u64 0] rfl ga ?_; (with_reducible refine (ko.calls a0 0 0 t137 _ A10.out).mono ?_); rintro e w' ⟨rfl, ⟨nd, rfl⟩⟩; refine ⟨_, rfl, ?_⟩))
   go_ret2
   exact ⟨by first | rfl | (simp [gu, gp] <;> rfl) | (simp only [← hji5, ← hji6]; first | rfl | (simp [gu, gp] <;> rfl)) | (simp [*, gu, gp] <;> rfl), bes⟩
  ·
   replace c9 := Bool.eq_false_iff.mpr c9; subst c9; rw [if_neg (show ¬ (false = true) by decide)] at H; obtain ⟨t136, A14, H⟩ := ob H; (try dsimp -simprocs only at H); simp only [Option.some.injEq, Prod.mk.injEq] at H; obtain ⟨rfl, rfl⟩ := H; go_enter Tryd.func35, Tryd.ntmps35
   go_wp2_with (first | ((with_reducible refine bq (N := 5) rfl ?_); refine l5 (N := 5) (cs := #[.int .u64 a1_0, .int .u64 a1_1]) (t := 65) ?_; intro gb134 hg w15 hbox hb; refine ax4 (af bel hb) hbox ((ge hg : w.heap.size ≤ gb134)) ((ge hg : w.heap.size ≤ gb134)) ?_; clear HB; intro HB BK134 GW134 GE134; clear hb hbox hg; have ⟨_, _⟩ := cf BK134 0 rfl; have ⟨_, _⟩ := cf BK134 1 rfl) | ((with_reducible refine ag (f := 53) rfl ?_); refine df (some 22) rfl rfl Tryd.func53 (by kernel_rfl) rfl #[.agg #[.int .u64 a1_0, .int .u64 a1_1]] rfl ga ?_; (with_reducible refine (lg.calls a1_0 a1_1 true _ A7.out).mono ?_); rintro e w17 ⟨rfl, hb⟩; refine ⟨_, rfl, ?_⟩; refine ax2 (bb BK134 hb) (af bes hb) ?_; clear BK134; clear HB; intro BK134 HB; (try clear hb)) | ((with_reducible refine ag (f := 54) rfl ?_); refine df (some 26) rfl rfl Tryd.func54 (by kernel_rfl) rfl #[.bool a0, .int .i64 0, .int .u64 0] rfl ga ?_; (with_reducible refine (ko.calls a0 0 0 t136 _ A14.out).mono ?_); rintro e w' ⟨rfl, ⟨nd, rfl⟩⟩; refine ⟨_, rfl, ?_⟩))
   go_ret2
   exact ⟨by first | rfl | (simp [gu, gp] <;> rfl) | (simp only [← hji5, ← hji6]; first | rfl | (simp [gu, gp] <;> rfl)) | (simp [*, gu, gp] <;> rfl), bes⟩
 ·
  replace c8 := Bool.eq_false_iff.mpr c8; subst c8; rw [if_neg (show ¬ (false = true) by decide)] at H; obtain ⟨t138, A18, H⟩ := ob H; (try dsimp -simprocs only at H); obtain ⟨t139, A19, H⟩ := ob H; (try dsimp -simprocs only at H); have HC20 := aa.mk H; clear H; go_enter Tryd.func35, Tryd.ntmps35
  go_upto_if 40 with (first | ((with_reducible refine bq (N := 5) rfl ?_); refine l5 (N := 5) (cs := #[.int .u64 a1_0, .int .u64 a1_1]) (t := 65) ?_; intro gb134 hg w21 hbox hb; refine ax4 (af bel hb) hbox ((ge hg : w.heap.size ≤ gb134)) ((ge hg : w.heap.size ≤ gb134)) ?_; clear HB; intro HB BK134 GW134 GE134; clear hb hbox hg; have ⟨_, _⟩ := cf BK134 0 rfl; have ⟨_, _⟩ := cf BK134 1 rfl) | ((with_reducible refine ag (f := 53) rfl ?_); refine df (some 22) rfl rfl Tryd.func53 (by kernel_rfl) rfl #[.agg #[.int .u64 a1_0, .int .u64 a1_1]] rfl ga ?_; (with_reducible refine (lg.calls a1_0 a1_1 false _ A7.out).mono ?_); rintro e w23 ⟨rfl, hb⟩; refine ⟨_, rfl, ?_⟩; refine ax2 (bb BK134 hb) (af bes hb) ?_; clear BK134; clear HB; intro BK134 HB; (try clear hb); have ⟨_, _⟩ := cf BK134 0 rfl; have ⟨_, _⟩ := cf BK134 1 rfl) | ((with_reducible refine ag (f := 55) rfl ?_); refine df (some 30) rfl rfl Tryd.func55 (by kernel_rfl) rfl #[.agg #[.int .u64 a1_0, .int .u64 a1_1]] rfl ga ?_; (with_reducible refine (jd.calls k a1_0 a1_1 t138 _ A18.out).mono ?_); rintro e w25 ⟨rfl, hb⟩; refine ⟨_, rfl, ?_⟩; refine ax2 (bb BK134 hb) (af bes hb) ?_; clear BK134; clear HB; intro BK134 HB; (try clear hb); have ⟨_, _⟩ := cf BK134 0 rfl; have ⟨_, _⟩ := cf BK134 1 rfl) | ((with_reducible refine ag (f := 55) rfl ?_); refine df (some 34) rfl rfl Tryd.func55 (by kernel_rfl) rfl #[.agg #[.int .u64 a1_0, .int .u64 a1_1]] rfl ga ?_; (with_reducible refine (jd.calls k a1_0 a1_1 t139 _ A19.out).mono ?_); rintro e w27 ⟨rfl, hb⟩; refine ⟨_, rfl, ?_⟩; refine ax2 (bb BK134 hb) (af bes hb) ?_; clear BK134; clear HB; intro BK134 HB; (try clear hb)))
  (try simp only [Act.put, sa0, sa1, sa2])
  go_cut [10, 11] (fun v10 v11 wc => ∃ (kq : Nat) (x10_19 : Int) (x11_19 : Bool), v10 = .int .i64 x10_19 ∧ v11 = .bool x11_19 ∧ aa (aj.j0 kq a0 ji6 a3 x10_19 x11_19 a1_0 a1_1 = some (r1, r2)) ∧ aa (kq ≤ k) ∧ aa (wc.heap[gb134]? = some (.cells #[.int .u64 a1_0, .int .u64 a1_1] 65 (0, 0))) ∧ aa (Below w.heap.size w wc))
  case first =>
   have H := HC20.out; clear HC20
   by_cases c28 : (wrap64 ((ji6) + (wrap64 (t138 - 53)))) < (-1074)
   rotate_left
   ·
    rw [if_neg c28] at H; have c28b0 := decide_eq_false c28; clear c28
    (first | rw [c28b0] | (simp only [jw, l8]; rw [c28b0]) | skip)
    have H' := aa.mk H; clear H; go_wp2; go_meet
    case rel => exact ⟨_, (wrap64 (t138 - 53)), (decide ((wrap64 ((ji6) + t139)) < (-1021))), (by first | rfl | (simp; done) | (simp [*]; done)), (by first | rfl | (simp; done) | (simp only [← hji6] <;> (first | rfl | simp)) | (simp [*]; done)), H', ⟨by first | omega | exact Nat.le_refl _⟩, ⟨kb BK134⟩, ⟨bes⟩⟩
   rw [if_pos c28] at H; have c28b0 := decide_eq_true c28; clear c28
   (first | rw [c28b0] | (simp only [jw, l8]; rw [c28b0]) | skip)
   have H' := aa.mk H; clear H; go_wp2; go_meet
   case rel => exact ⟨_, ((-1074) - (ji6)), (decide ((wrap64 ((ji6) + t139)) < (-1021))), (by first | rfl | (simp; done) | (simp only [← hji6] <;> (first | rfl | simp)) | (simp [*]; done)), (by first | rfl | (simp; done) | (simp only [← hji6] <;> (first | rfl | simp)) | (simp [*]; done)), H', ⟨by first | omega | exact Nat.le_refl _⟩, ⟨kb BK134⟩, ⟨bes⟩⟩
  case rest =>
   clear HC20
   obtain ⟨kq, x10_19, x11_19, rfl, rfl, HA, HJ19, BK134, HB⟩ := hcut; cases kq with
   | zero => exact absurd HA.out (by simp [aj.j0])
   | succ kj19 =>
    have H := HA.out; clear HA; simp only [aj.j0] at H; have HC29 := aa.mk H; clear H
    go_upto_if 45 with (fail)
    go_cut [12] (fun v12 wc => ∃ (kq : Nat) (x12_28 : Bool) (x135000_28 : Int) (x135001_28 : Int), v12 = .bool x12_28 ∧ aa (aj.j4 kq a0 ji6 x10_19 x11_19 x12_28 x135000_28 x135001_28 = some (r1, r2)) ∧ aa (kq ≤ kj19) ∧ aa (wc.heap[gb134]? = some (.cells #[.int .u64 x135000_28, .int .u64 x135001_28] 65 (0, 0))) ∧ aa (Below w.heap.size w wc))
    case first =>
     have H := HC29.out; clear HC29
     by_cases c30 : x10_19 > 0
     ·
      rw [if_pos c30] at H; have c30b0 : decide (0 < x10_19) = true := decide_eq_true c30; clear c30
      (first | rw [c30b0] | (simp only [jw, l8]; rw [c30b0]) | skip)
      obtain ⟨⟨t140, t141, t142⟩, A31, H⟩ := ob H; (try dsimp -simprocs only at H); obtain ⟨⟨t144, t145⟩, A32, H⟩ := ob H; (try dsimp -simprocs only at H); have HC33 := aa.mk H; clear H; have ⟨_, _⟩ := cf BK134 0 rfl; have ⟨_, _⟩ := cf BK134 1 rfl
      go_upto_region 15 with (first | ((with_reducible refine ag (f := 56) rfl ?_); refine df (some 49) rfl rfl Tryd.func56 (by kernel_rfl) rfl #[.agg #[.int .u64 a1_0, .int .u64 a1_1], .int .i64 x10_19] rfl ga ?_; (with_reducible refine (ax.calls kj19 a1_0 a1_1 x10_19 t140 t141 t142 _ A31.out).mono ?_); rintro e w35 ⟨rfl, hb⟩; refine ⟨_, rfl, ?_⟩; refine ax2 (bb BK134 hb) (af bes hb) ?_; clear BK134; clear HB; intro BK134 HB; (try clear hb)) | ((with_reducible refine bq (N := 14) rfl ?_); refine l5 (N := 14) (cs := #[.int .u64 0, .int .u64 0]) (t := 65) ?_; intro gb143 hg w36 hbox hb; refine ax7 (bb BK134 hb) (af bes hb) hbox ((ge hg : w.heap.size ≤ gb143)) ((ge hg : w.heap.size ≤ gb143)) (nl hg BK134) (ng hg BK134) ?_; clear BK134; clear HB; intro BK134 HB BK143 GW143 GE143 NB134_143 NB143_134; clear hb hbox hg; have hnb37 := NB143_134.out; have hnc37 := NB134_143.out; have ⟨_, _⟩ := cf BK143 0 rfl; have ⟨_, _⟩ := cf BK143 1 rfl; have ⟨_, _⟩ := cf BK134 0 rfl; have ⟨_, _⟩ := cf BK134 1 rfl) | ((with_reducible refine ag (f := 57) rfl ?_); refine df (some 56) rfl rfl Tryd.func57 (by kernel_rfl) rfl #[.agg #[.int .u64 a1_0, .int .u64 a1_1], .int .i64 x10_19, .bool t142] rfl ga ?_; (with_reducible refine (qo.calls kj19 a1_0 a1_1 x10_19 t142 t144 t145 _ A32.out).mono ?_); rintro e w40 ⟨rfl, hb⟩; refine ⟨_, rfl, ?_⟩; refine ax3 (ru (g := gb134) (o := .cells #[.int .u64 a1_0, .int .u64 a1_1] 65 (0, 0)) (bf BK134 NB134_143) hb) (ru (g := gb143) (o := .cells #[.int .u64 t140, .int .u64 t141] 65 (0, 0)) (bp BK143) hb) (af bes hb) ?_; clear BK134; clear BK143; clear HB; intro BK134 BK143 HB; (try clear hb)))
      (try simp only [Act.put, sa0, sa1, sa2])
      go_cut [12] (fun v12 wc => ∃ (kq : Nat) (x12_32 : Bool), v12 = .bool x12_32 ∧ aa (aj.j1 kq a0 ji6 a3 x10_19 x11_19 x12_32 t144 t145 t140 t141 = some (r1, r2)) ∧ aa (kq ≤ kj19) ∧ aa (wc.heap[gb134]? = some (.cells #[.int .u64 a1_0, .int .u64 a1_1] 65 (0, 0))) ∧ aa (wc.heap[gb143]? = some (.cells #[.int .u64 t140, .int .u64 t141] 65 (0, 0))) ∧ aa (Below w.heap.size w wc))
      case first =>
       have H := HC33.out; clear HC33
       by_cases c41 : t144 = true
       ·
        subst c41; rw [if_pos rfl] at H; have H' := aa.mk H; clear H; go_wp2; go_meet
        case rel => exact ⟨_, (true), (by first | rfl | (simp; done) | (simp [*]; done)), H', ⟨by have := HJ19.out; first | omega | exact Nat.le_refl _⟩, ⟨kb BK134⟩, ⟨kb BK143⟩, ⟨bes⟩⟩
       ·
        replace c41 := Bool.eq_false_iff.mpr c41; subst c41; rw [if_neg (show ¬ (false = true) by decide)] at H
        by_cases c42 : t145 = true
        ·
         subst c42; rw [if_pos rfl] at H; have H' := aa.mk H; clear H; go_wp2; go_meet
         case rel => exact ⟨_, (true), (by first | rfl | (simp; done) | (simp [*]; done)), H', ⟨by have := HJ19.out; first | omega | exact Nat.le_refl _⟩, ⟨kb BK134⟩, ⟨kb BK143⟩, ⟨bes⟩⟩
        ·
         replace c42 := Bool.eq_false_iff.mpr c42; subst c42; rw [if_neg (show ¬ (false = true) by decide)] at H; have H' := aa.mk H; clear H; go_wp2; go_meet
         case rel => exact ⟨_, (a3), (by first | rfl | (simp; done) | (simp [*]; done)), H', ⟨by have := HJ19.out; first | omega | exact Nat.le_refl _⟩, ⟨kb BK134⟩, ⟨kb BK143⟩, ⟨bes⟩⟩
      case rest =>
       clear HC33
       obtain ⟨kq, x12_32, rfl, HA, HJ32, BK134, BK143, HB⟩ := hcut; cases kq with
       | zero => exact absurd HA.out (by simp [aj.j1])
       | succ kj32 =>
        have H := HA.out; clear HA; simp only [aj.j1] at H; have HC43 := aa.mk H; clear H; have hnb44 := NB143_134.out; have hnc44 := NB134_143.out; have ⟨_, _⟩ := cf BK143 0 rfl; have ⟨_, _⟩ := cf BK143 1 rfl; have ⟨_, _⟩ := cf BK134 0 rfl; have ⟨_, _⟩ := cf BK134 1 rfl
        go_upto_region 17 with (fail)
        go_cut [79] (fun v79 wc => ∃ (kq : Nat) (x79_42 : Bool), v79 = .bool x79_42 ∧ aa (aj.j2 kq a0 ji6 x10_19 x11_19 x12_32 x79_42 t140 t141 = some (r1, r2)) ∧ aa (kq ≤ kj32) ∧ aa (wc.heap[gb134]? = some (.cells #[.int .u64 t140, .int .u64 t141] 65 (0, 0))) ∧ aa (wc.heap[gb143]? = some (.cells #[.int .u64 t140, .int .u64 t141] 65 (0, 0))) ∧ aa (Below w.heap.size w wc))
        case first =>
         have H := HC43.out; clear HC43
         by_cases c47 : t144 = true
         rotate_left
         ·
          replace c47 := Bool.eq_false_iff.mpr c47; subst c47; rw [if_neg (show ¬ (false = true) by decide)] at H; have H' := aa.mk H; clear H; go_wp2; go_meet
          case rel => exact ⟨_, (false), (by first | rfl | (simp; done) | (simp [*]; done)), H', ⟨by have := HJ19.out; have := HJ32.out; first | omega | exact Nat.le_refl _⟩, ⟨bp BK134⟩, ⟨bf BK143 NB143_134⟩, ⟨bes⟩⟩
         subst c47; rw [if_pos rfl] at H
         by_cases c48 : t145 = true
         ·
          subst c48; rw [if_pos rfl] at H; have H' := aa.mk H; clear H; go_wp2; go_meet
          case rel => exact ⟨_, (true), (by first | rfl | (simp; done) | (simp [*]; done)), H', ⟨by have := HJ19.out; have := HJ32.out; first | omega | exact Nat.le_refl _⟩, ⟨bp BK134⟩, ⟨bf BK143 NB143_134⟩, ⟨bes⟩⟩
         ·
          replace c48 := Bool.eq_false_iff.mpr c48; subst c48; rw [if_neg (show ¬ (false = true) by decide)] at H
          by_cases c49 : a3 = true
          ·
           subst c49; rw [if_pos rfl] at H; have H' := aa.mk H; clear H; go_wp2; go_meet
           case rel => exact ⟨_, (true), (by first | rfl | (simp; done) | (simp [*]; done)), H', ⟨by have := HJ19.out; have := HJ32.out; first | omega | exact Nat.le_refl _⟩, ⟨bp BK134⟩, ⟨bf BK143 NB143_134⟩, ⟨bes⟩⟩
          ·
           replace c49 := Bool.eq_false_iff.mpr c49; subst c49; rw [if_neg (show ¬ (false = true) by decide)] at H; have H' := aa.mk H; clear H; have hnb50 := NB134_143.out; have hnc50 := NB143_134.out; have ⟨_, _⟩ := cf BK134 0 rfl; have ⟨_, _⟩ := cf BK134 1 rfl; go_wp2; go_meet
           case rel => exact ⟨_, (((Go.bits .and .u64 t141 1) == 1)), (by first | rfl | (simp; done) | (simp [*]; done)), H', ⟨by have := HJ19.out; have := HJ32.out; first | omega | exact Nat.le_refl _⟩, ⟨bp BK134⟩, ⟨bf BK143 NB143_134⟩, ⟨bes⟩⟩
        case rest =>
         clear HC43
         obtain ⟨kq, x79_42, rfl, HA, HJ42, BK134, BK143, HB⟩ := hcut; cases kq with
         | zero => exact absurd HA.out (by simp [aj.j2])
         | succ kj42 =>
          have H := HA.out; clear HA; simp only [aj.j2] at H
          by_cases c52 : x79_42 = true
          rotate_left
          ·
           replace c52 := Bool.eq_false_iff.mpr c52; subst c52; rw [if_neg (show ¬ (false = true) by decide)] at H; have H' := aa.mk H; clear H; go_wp2; go_meet
           case rel => exact ⟨_, (x12_32), (t140), (t141), (by first | rfl | (simp; done) | (simp [*]; done)), H', ⟨by have := HJ19.out; have := HJ32.out; have := HJ42.out; first | omega | exact Nat.le_refl _⟩, ⟨kb BK134⟩, ⟨bes⟩⟩
          subst c52; rw [if_pos rfl] at H; obtain ⟨⟨t146, t147, t148⟩, A53, H⟩ := ob H; (try dsimp -simprocs only at H); have H' := aa.mk H; clear H; have hnb54 := NB134_143.out; have hnc54 := NB143_134.out; have ⟨_, _⟩ := cf BK134 0 rfl; have ⟨_, _⟩ := cf BK134 1 rfl
          go_wp2_with (first | ((with_reducible refine ag (f := 33) rfl ?_); refine df (some 83) rfl rfl Tryd.func33 (by kernel_rfl) rfl #[.agg #[.int .u64 t140, .int .u64 t141], .agg #[.int .u64 0, .int .u64 1]] rfl ga ?_; (with_reducible refine (o8.calls t140 t141 0 1 t146 t147 t148 _ A53.out).mono ?_); rintro e w56 ⟨rfl, hb⟩; refine ⟨_, rfl, ?_⟩; refine ax3 (bb BK134 hb) (bb BK143 hb) (af bes hb) ?_; clear BK134; clear BK143; clear HB; intro BK134 BK143 HB; (try clear hb); have ⟨_, _⟩ := cf BK134 0 rfl; have ⟨_, _⟩ := cf BK134 1 rfl))
          go_meet
          case rel => exact ⟨_, (x12_32), (t146), (t147), (by first | rfl | (simp; done) | (simp [*]; done)), H', ⟨by have := HJ19.out; have := HJ32.out; have := HJ42.out; first | omega | exact Nat.le_refl _⟩, ⟨bp BK134⟩, ⟨bes⟩⟩
     ·
      rw [if_neg c30] at H; have c30b0 : decide (0 < x10_19) = false := decide_eq_false c30; clear c30
      (first | rw [c30b0] | (simp only [jw, l8]; rw [c30b0]) | skip)
      have HC58 := aa.mk H; clear H
      go_upto_region 19 with (fail)
      go_cut [91] (fun v91 wc => ∃ (kq : Nat) (x91_57 : Bool), v91 = .bool x91_57 ∧ aa (aj.j3 kq a0 ji6 x10_19 x11_19 a3 x91_57 a1_0 a1_1 = some (r1, r2)) ∧ aa (kq ≤ kj19) ∧ aa (wc.heap[gb134]? = some (.cells #[.int .u64 a1_0, .int .u64 a1_1] 65 (0, 0))) ∧ aa (Below w.heap.size w wc))
      case first =>
       have H := HC58.out; clear HC58
       by_cases c59 : x10_19 < 0
       rotate_left
       ·
        rw [if_neg c59] at H; have c59b0 := decide_eq_false c59; clear c59
        (first | rw [c59b0] | (simp only [jw, l8]; rw [c59b0]) | skip)
        have H' := aa.mk H; clear H; go_wp2; go_meet
        case rel => exact ⟨_, (false), (by first | rfl | (simp; done) | (simp [*]; done)), H', ⟨by have := HJ19.out; first | omega | exact Nat.le_refl _⟩, ⟨kb BK134⟩, ⟨bes⟩⟩
       rw [if_pos c59] at H; have c59b0 := decide_eq_true c59; clear c59
       (first | rw [c59b0] | (simp only [jw, l8]; rw [c59b0]) | skip)
       have H' := aa.mk H; clear H; go_wp2; go_meet
       case rel => exact ⟨_, (!a3), (by first | rfl | (simp; done) | (simp [*]; done)), H', ⟨by have := HJ19.out; first | omega | exact Nat.le_refl _⟩, ⟨kb BK134⟩, ⟨bes⟩⟩
      case rest =>
       clear HC58
       obtain ⟨kq, x91_57, rfl, HA, HJ57, BK134, HB⟩ := hcut; cases kq with
       | zero => exact absurd HA.out (by simp [aj.j3])
       | succ kj57 =>
        have H := HA.out; clear HA; simp only [aj.j3] at H
        by_cases c60 : x91_57 = true
        ·
         subst c60; rw [if_pos rfl] at H; obtain ⟨⟨t149, t150⟩, A61, H⟩ := ob H; (try dsimp -simprocs only at H); have H' := aa.mk H; clear H; have ⟨_, _⟩ := cf BK134 0 rfl; have ⟨_, _⟩ := cf BK134 1 rfl
         go_wp2_with (first | ((with_reducible refine ag (f := 34) rfl ?_); refine df (some 95) rfl rfl Tryd.func34 (by kernel_rfl) rfl #[.agg #[.int .u64 a1_0, .int .u64 a1_1], .int .i64 (wrap64 (-x10_19))] rfl ga ?_; (with_reducible refine (ic.calls a1_0 a1_1 (wrap64 (-x10_19)) t149 t150 _ A61.out).mono ?_); rintro e w63 ⟨rfl, hb⟩; refine ⟨_, rfl, ?_⟩; refine ax2 (bb BK134 hb) (af bes hb) ?_; clear BK134; clear HB; intro BK134 HB; (try clear hb); have ⟨_, _⟩ := cf BK134 0 rfl; have ⟨_, _⟩ := cf BK134 1 rfl))
         go_meet
         case rel => exact ⟨_, (a3), (t149), (t150), (by first | rfl | (simp; done) | (simp [*]; done)), H', ⟨by have := HJ19.out; have := HJ57.out; first | omega | exact Nat.le_refl _⟩, ⟨bp BK134⟩, ⟨bes⟩⟩
        ·
         replace c60 := Bool.eq_false_iff.mpr c60; subst c60; rw [if_neg (show ¬ (false = true) by decide)] at H
         by_cases c65 : x10_19 < 0
         rotate_left
         ·
          rw [if_neg c65] at H; have c65b0 := decide_eq_false c65; clear c65; have H' := aa.mk H; clear H; go_wp2; go_meet
          case rel => exact ⟨_, (a3), (a1_0), (a1_1), (by first | rfl | (simp; done) | (simp [*]; done)), H', ⟨by have := HJ19.out; have := HJ57.out; first | omega | exact Nat.le_refl _⟩, ⟨kb BK134⟩, ⟨bes⟩⟩
         rw [if_pos c65] at H; have c65b0 := decide_eq_true c65; clear c65; obtain ⟨⟨t151, t152⟩, A66, H⟩ := ob H; (try dsimp -simprocs only at H); have H' := aa.mk H; clear H; have ⟨_, _⟩ := cf BK134 0 rfl; have ⟨_, _⟩ := cf BK134 1 rfl
         go_wp2_with (first | ((with_reducible refine ag (f := 34) rfl ?_); refine df (some 101) rfl rfl Tryd.func34 (by kernel_rfl) rfl #[.agg #[.int .u64 a1_0, .int .u64 a1_1], .int .i64 (wrap64 (-x10_19))] rfl ga ?_; (with_reducible refine (ic.calls a1_0 a1_1 (wrap64 (-x10_19)) t151 t152 _ A66.out).mono ?_); rintro e w68 ⟨rfl, hb⟩; refine ⟨_, rfl, ?_⟩; refine ax2 (bb BK134 hb) (af bes hb) ?_; clear BK134; clear HB; intro BK134 HB; (try clear hb); have ⟨_, _⟩ := cf BK134 0 rfl; have ⟨_, _⟩ := cf BK134 1 rfl))
         go_meet
         case rel => exact ⟨_, (a3), (t151), (t152), (by first | rfl | (simp; done) | (simp [*]; done)), H', ⟨by have := HJ19.out; have := HJ57.out; first | omega | exact Nat.le_refl _⟩, ⟨bp BK134⟩, ⟨bes⟩⟩
    case rest =>
     clear HC29
     obtain ⟨kq, x12_28, x135000_28, x135001_28, rfl, HA, HJ28, BK134, HB⟩ := hcut; cases kq with
     | zero => exact absurd HA.out (by simp [aj.j4])
     | succ kj28 =>
      have H := HA.out; clear HA; simp only [aj.j4] at H; have HC70 := aa.mk H; clear H; have ⟨_, _⟩ := cf BK134 0 rfl; have ⟨_, _⟩ := cf BK134 1 rfl
      go_upto_if 108 with (fail)
      go_cut [2, 16] (fun v2 v16 wc => ∃ (kq : Nat) (x2_69 : Int) (x16_69 : Int), v2 = .int .i64 x2_69 ∧ v16 = .int .u64 x16_69 ∧ aa (aj.j5 kq a0 x2_69 x11_19 x12_28 x16_69 = some (r1, r2)) ∧ aa (kq ≤ kj28) ∧ aa (wc.heap[gb134]? = some (.cells #[.int .u64 x135000_28, .int .u64 x135001_28] 65 (0, 0))) ∧ aa (Below w.heap.size w wc))
      case first =>
       have H := HC70.out; clear HC70
       by_cases c72 : x135001_28 = 9007199254740992
       rotate_left
       ·
        rw [if_neg c72] at H; have c72b0 := beq_eq_false_iff_ne.mpr c72; have c72b1 := bne_iff_ne.mpr c72
        (first | rw [c72b0] | (simp only [jw, l8]; rw [c72b0]) | skip)
        have H' := aa.mk H; clear H; go_wp2; go_meet
        case rel => exact ⟨_, (wrap64 (ji6 + x10_19)), (x135001_28), (by first | rfl | (simp; done) | (simp only [← hji6] <;> (first | rfl | simp)) | (simp [*]; done)), (by first | rfl | (simp; done) | (simp [*]; done)), H', ⟨by have := HJ19.out; have := HJ28.out; first | omega | exact Nat.le_refl _⟩, ⟨kb BK134⟩, ⟨bes⟩⟩
       rw [if_pos c72] at H; have c72b0 := beq_iff_eq.mpr c72; have c72b1 := bne_eq_false_iff_eq.mpr c72; clear c72
       (first | rw [c72b0] | (simp only [jw, l8]; rw [c72b0]) | skip)
       have H' := aa.mk H; clear H; go_wp2; go_meet
       case rel => exact ⟨_, (wrap64 ((wrap64 (ji6 + x10_19)) + 1)), (x135001_28 / 2), (by first | rfl | (simp; done) | (simp only [← hji6] <;> (first | rfl | simp)) | (simp [*]; done)), (by first | rfl | (simp; done) | (simp [*]; done)), H', ⟨by have := HJ19.out; have := HJ28.out; first | omega | exact Nat.le_refl _⟩, ⟨kb BK134⟩, ⟨bes⟩⟩
      case rest =>
       clear HC70
       obtain ⟨kq, x2_69, x16_69, rfl, rfl, HA, HJ69, BK134, HB⟩ := hcut; cases kq with
       | zero => exact absurd HA.out (by simp [aj.j5])
       | succ kj69 =>
        have H := HA.out; clear HA; simp only [aj.j5] at H; have HC73 := aa.mk H; clear H
        go_upto_if 113 with (fail)
        go_cut [17] (fun v17 wc => ∃ (kq : Nat) (x17_72 : Int), v17 = .int .u8 x17_72 ∧ aa (aj.j6 kq a0 x2_69 x16_69 x17_72 = some (r1, r2)) ∧ aa (kq ≤ kj69) ∧ aa (wc.heap[gb134]? = some (.cells #[.int .u64 x135000_28, .int .u64 x135001_28] 65 (0, 0))) ∧ aa (Below w.heap.size w wc))
        case first =>
         have H := HC73.out; clear HC73
         by_cases c74 : x12_28 = true
         rotate_left
         ·
          replace c74 := Bool.eq_false_iff.mpr c74; subst c74; rw [if_neg (show ¬ (false = true) by decide)] at H; have H' := aa.mk H; clear H; go_wp2; go_meet
          case rel => exact ⟨_, (0), (by first | rfl | (simp; done) | (simp [*]; done)), H', ⟨by have := HJ19.out; have := HJ28.out; have := HJ69.out; first | omega | exact Nat.le_refl _⟩, ⟨kb BK134⟩, ⟨bes⟩⟩
         subst c74; rw [if_pos rfl] at H
         by_cases c75 : x11_19 = true
         ·
          subst c75; rw [if_pos rfl] at H; have H' := aa.mk H; clear H; go_wp2; go_meet
          case rel => exact ⟨_, (Go.bits .or .u8 (Go.bits .or .u8 0 1) 2), (by first | rfl | (simp; done) | (simp [*]; done)), H', ⟨by have := HJ19.out; have := HJ28.out; have := HJ69.out; first | omega | exact Nat.le_refl _⟩, ⟨kb BK134⟩, ⟨bes⟩⟩
         ·
          replace c75 := Bool.eq_false_iff.mpr c75; subst c75; rw [if_neg (show ¬ (false = true) by decide)] at H; have H' := aa.mk H; clear H; go_wp2; go_meet
          case rel => exact ⟨_, (Go.bits .or .u8 0 1), (by first | rfl | (simp; done) | (simp [*]; done)), H', ⟨by have := HJ19.out; have := HJ28.out; have := HJ69.out; first | omega | exact Nat.le_refl _⟩, ⟨kb BK134⟩, ⟨bes⟩⟩
        case rest =>
         clear HC73
         obtain ⟨kq, x17_72, rfl, HA, HJ72, BK134, HB⟩ := hcut; cases kq with
         | zero => exact absurd HA.out (by simp [aj.j6])
         | succ kj72 =>
          have H := HA.out; clear HA; simp only [aj.j6] at H
          by_cases c76 : x16_69 < 4503599627370496
          ·
           rw [if_pos c76] at H; have c76b0 := decide_eq_true c76; clear c76; obtain ⟨t153, A77, H⟩ := ob H; (try dsimp -simprocs only at H); simp only [Option.some.injEq, Prod.mk.injEq] at H; obtain ⟨rfl, rfl⟩ := H
           go_wp2_with (first | ((with_reducible refine ag (f := 54) rfl ?_); refine df (some 124) rfl rfl Tryd.func54 (by kernel_rfl) rfl #[.bool a0, .int .i64 0, .int .u64 x16_69] rfl ga ?_; (with_reducible refine (ko.calls a0 0 x16_69 t153 _ A77.out).mono ?_); rintro e w' ⟨rfl, ⟨nd, rfl⟩⟩; refine ⟨_, rfl, ?_⟩))
           go_ret2
           exact ⟨by first | rfl | (simp [gu, gp] <;> rfl) | (simp only [← hji5, ← hji6]; first | rfl | (simp [gu, gp] <;> rfl)) | (simp [*, gu, gp] <;> rfl), bes⟩
          ·
           rw [if_neg c76] at H; have c76b0 := decide_eq_false c76; clear c76
           by_cases c78 : (wrap64 (x2_69 + 1075)) ≥ 2047
           ·
            rw [if_pos c78] at H; have c78b0 : decide (2047 ≤ (wrap64 (x2_69 + 1075))) = true := decide_eq_true c78; clear c78; obtain ⟨t154, A79, H⟩ := ob H; (try dsimp -simprocs only at H); simp only [Option.some.injEq, Prod.mk.injEq] at H; obtain ⟨rfl, rfl⟩ := H
            go_wp2_with (first | ((with_reducible refine ag (f := 54) rfl ?_); refine df (some 131) rfl rfl Tryd.func54 (by kernel_rfl) rfl #[.bool a0, .int .i64 2047, .int .u64 0] rfl ga ?_; (with_reducible refine (ko.calls a0 2047 0 t154 _ A79.out).mono ?_); rintro e w' ⟨rfl, ⟨nd, rfl⟩⟩; refine ⟨_, rfl, ?_⟩))
            go_ret2
            exact ⟨by first | rfl | (simp [gu, gp] <;> rfl) | (simp only [← hji5, ← hji6]; first | rfl | (simp [gu, gp] <;> rfl)) | (simp [*, gu, gp] <;> rfl), bes⟩
           ·
            rw [if_neg c78] at H; have c78b0 : decide (2047 ≤ (wrap64 (x2_69 + 1075))) = false := decide_eq_false c78; clear c78; obtain ⟨t155, A80, H⟩ := ob H; (try dsimp -simprocs only at H); simp only [Option.some.injEq, Prod.mk.injEq] at H; obtain ⟨rfl, rfl⟩ := H
            go_wp2_with (first | ((with_reducible refine ag (f := 54) rfl ?_); refine df (some 139) rfl rfl Tryd.func54 (by kernel_rfl) rfl #[.bool a0, .int .i64 (wrap64 (x2_69 + 1075)), .int .u64 x16_69] rfl ga ?_; (with_reducible refine (ko.calls a0 (wrap64 (x2_69 + 1075)) x16_69 t155 _ A80.out).mono ?_); rintro e w' ⟨rfl, ⟨nd, rfl⟩⟩; refine ⟨_, rfl, ?_⟩))
            go_ret2
            exact ⟨by first | rfl | (simp [gu, gp] <;> rfl) | (simp only [← hji5, ← hji6]; first | rfl | (simp [gu, gp] <;> rfl)) | (simp [*, gu, gp] <;> rfl), bes⟩

end Go.Proofs.YtnjobojkoaknpaaDoor.F
