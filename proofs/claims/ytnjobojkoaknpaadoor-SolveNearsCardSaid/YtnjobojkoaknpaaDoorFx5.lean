-- Written by a program of this seat's session (mkprint), out of the translation.
import Derived.Test.YtnjobojkoaknpaaDoorShort
import Derived.Test.YtnjobojkoaknpaaDoorFx0
import Derived.Test.YtnjobojkoaknpaaDoorFx2
import Derived.Test.YtnjobojkoaknpaaDoorFx4
namespace Go.Proofs.YtnjobojkoaknpaaDoor.F
open Go.RowKit Go.Proofs.YtnjobojkoaknpaaDoorW.PrintWords Go.Proofs.YtnjobojkoaknpaaDoorW.PrintLast Go.Proofs.YtnjobojkoaknpaaDoorW.PrintMore
attribute [local go_sem] uh uf vv vw qw qp tu ui   -- for this text's walks alone
set_option linter.unusedVariables false
set_option linter.unusedSimpArgs false

/-! ### wm: function 43 -/
def wm.f (a0 : Int) : Option (Int) := some (wrap64 (Go.bits .and .u64 (a0 / 4503599627370496) 2047))
set_option maxHeartbeats 8000000 in
set_option maxRecDepth 100000 in
theorem wm.calls (a0 : Int) (r : Int) (w : World) (h : wm.f a0 = some r) :
  Calls Tryd.prog 43 #[.int .u64 a0] w fun e w' => e = .returned (.int .i64 r) ∧ dh w w' := by
 have H : (some (wrap64 (Go.bits .and .u64 (a0 / 4503599627370496) 2047))) = some r := h; clear h; obtain rfl := Option.some.inj H; go_enter Tryd.func43, Tryd.ntmps43; go_wp2; go_ret; exact ⟨by first | rfl | (simp; done) | (simp [*]; done), by repeat (first | exact dh.refl _ | apply dh.step)⟩

/-! ### uq: function 63 -/
def uq.f (a0 : Int) : Option (Int) := some (Go.bits .and .u64 a0 4503599627370495)
set_option maxHeartbeats 8000000 in
set_option maxRecDepth 100000 in
theorem uq.calls (a0 : Int) (r : Int) (w : World) (h : uq.f a0 = some r) :
  Calls Tryd.prog 63 #[.int .u64 a0] w fun e w' => e = .returned (.int .u64 r) ∧ dh w w' := by
 have H : (some (Go.bits .and .u64 a0 4503599627370495)) = some r := h; clear h; obtain rfl := Option.some.inj H; go_enter Tryd.func63, Tryd.ntmps63; go_wp2; go_ret; exact ⟨by first | rfl | (simp; done) | (simp [*]; done), by repeat (first | exact dh.refl _ | apply dh.step)⟩

/-! ### dw: function 40 -/
def dw.j0 : Nat → Int → Int → Bool → Option (Int)
 | 0, _, _, _ => none
 | k + 1, x3, x4, x9 => if x9 = true then (some 1) else (if x3 = 0 then (some 2) else (if x3 < 2047 then (some 3) else (if x4 = 0 then (some 4) else (some 5))))
def dw.f (k : Nat) (a0 : Int) : Option (Int) := (wm.f a0).bind fun t156 => ((uq.f a0).bind fun t157 => (if t156 = 0 then (dw.j0 k t156 t157 (t157 == 0)) else (dw.j0 k t156 t157 false)))
theorem dw.jm : ∀ k, (∀ y0 y1 y2, LeO (dw.j0 k y0 y1 y2) (dw.j0 (k + 1) y0 y1 y2))
 | 0 => fun _ _ _ r h => by simp [dw.j0] at h
 | k + 1 => by
  have ih0 := dw.jm k
  ·
   intro y0 y1 y2
   unfold dw.j0
   repeat' with_reducible first | apply ih0 | exact LeO.refl _ | exact LeO.none _ | refine LeO.ite ?_ ?_ | refine LeO.bind ?_ (fun _ => ?_)
theorem dw.mono : ∀ a0 k, LeO (dw.f k a0) (dw.f (k + 1) a0) := by
 intro a0 k; have ih0 := dw.jm k
 unfold dw.f
 repeat' with_reducible first | apply ih0 | exact LeO.refl _ | exact LeO.none _ | refine LeO.ite ?_ ?_ | refine LeO.bind ?_ (fun _ => ?_)
set_option maxHeartbeats 8000000 in
set_option maxRecDepth 100000 in
theorem dw.calls (k : Nat) (a0 : Int) (r : Int) (w : World) (h : dw.f k a0 = some r) :
  Calls Tryd.prog 40 #[.int .u64 a0] w fun e w' => e = .returned (.int .i64 r) ∧ dh w w' := by
 have H : ((wm.f a0).bind fun t156 => ((uq.f a0).bind fun t157 => (if t156 = 0 then (dw.j0 k t156 t157 (t157 == 0)) else (dw.j0 k t156 t157 false)))) = some r := h; clear h; obtain ⟨t156, A2, H⟩ := ob H; (try dsimp -simprocs only at H); obtain ⟨t157, A3, H⟩ := ob H; (try dsimp -simprocs only at H); have HC4 := aa.mk H; clear H; go_enter Tryd.func40, Tryd.ntmps40
 go_upto_region 2 with (first | ((with_reducible refine ag (f := 43) rfl ?_); refine df (some 6) rfl rfl Tryd.func43 (by kernel_rfl) rfl #[.int .u64 a0] rfl ga ?_; (with_reducible refine (wm.calls a0 t156 _ A2.out).mono ?_); rintro e w' ⟨rfl, ⟨nd, rfl⟩⟩; refine ⟨_, rfl, ?_⟩) | ((with_reducible refine ag (f := 63) rfl ?_); refine df (some 8) rfl rfl Tryd.func63 (by kernel_rfl) rfl #[.int .u64 a0] rfl ga ?_; (with_reducible refine (uq.calls a0 t157 _ A3.out).mono ?_); rintro e w' ⟨rfl, ⟨nd, rfl⟩⟩; refine ⟨_, rfl, ?_⟩))
 (try simp only [Act.put, sa0, sa1, sa2])
 go_cut [9] (fun v9 wc => ∃ (kq : Nat) (x9_3 : Bool), v9 = .bool x9_3 ∧ aa (dw.j0 kq t156 t157 x9_3 = some r) ∧ aa (kq ≤ k) ∧ dh w wc)
 case first =>
  have H := HC4.out; clear HC4
  by_cases c5 : t156 = 0
  rotate_left
  ·
   rw [if_neg c5] at H; have c5b0 := beq_eq_false_iff_ne.mpr c5; have c5b1 := bne_iff_ne.mpr c5
   (first | rw [c5b0] | (simp only [jw, l8]; rw [c5b0]) | skip)
   have H' := aa.mk H; clear H; go_wp2; go_meet
   case rel => exact ⟨_, (false), (by first | rfl | (simp; done) | (simp [*]; done)), H', ⟨by first | omega | exact Nat.le_refl _⟩, by repeat (first | exact dh.refl _ | apply dh.step)⟩
  rw [if_pos c5] at H; have c5b0 := beq_iff_eq.mpr c5; have c5b1 := bne_eq_false_iff_eq.mpr c5; clear c5
  (first | rw [c5b0] | (simp only [jw, l8]; rw [c5b0]) | skip)
  have H' := aa.mk H; clear H; go_wp2; go_meet
  case rel => exact ⟨_, ((t157 == 0)), (by first | rfl | (simp; done) | (simp [*]; done)), H', ⟨by first | omega | exact Nat.le_refl _⟩, by repeat (first | exact dh.refl _ | apply dh.step)⟩
 case rest =>
  clear HC4
  obtain ⟨kq, x9_3, rfl, HA, HJ3, ⟨mc3, rfl⟩⟩ := hcut; cases kq with
  | zero => exact absurd HA.out (by simp [dw.j0])
  | succ kj3 =>
   have H := HA.out; clear HA; simp only [dw.j0] at H
   by_cases c6 : x9_3 = true
   ·
    subst c6; rw [if_pos rfl] at H; obtain rfl := Option.some.inj H; go_wp2; go_ret; exact ⟨by first | rfl | (simp; done) | (simp [*]; done), by repeat (first | exact dh.refl _ | apply dh.step)⟩
   ·
    replace c6 := Bool.eq_false_iff.mpr c6; subst c6; rw [if_neg (show ¬ (false = true) by decide)] at H
    by_cases c7 : t156 = 0
    ·
     rw [if_pos c7] at H; have c7b0 := beq_iff_eq.mpr c7; have c7b1 := bne_eq_false_iff_eq.mpr c7; clear c7; obtain rfl := Option.some.inj H; go_wp2; go_ret; exact ⟨by first | rfl | (simp; done) | (simp [*]; done), by repeat (first | exact dh.refl _ | apply dh.step)⟩
    ·
     rw [if_neg c7] at H; have c7b0 := beq_eq_false_iff_ne.mpr c7; have c7b1 := bne_iff_ne.mpr c7
     by_cases c8 : t156 < 2047
     ·
      rw [if_pos c8] at H; have c8b0 : decide (t156 < 2047) = true := decide_eq_true c8; clear c8; obtain rfl := Option.some.inj H; go_wp2; go_ret; exact ⟨by first | rfl | (simp; done) | (simp [*]; done), by repeat (first | exact dh.refl _ | apply dh.step)⟩
     ·
      rw [if_neg c8] at H; have c8b0 : decide (t156 < 2047) = false := decide_eq_false c8; clear c8
      by_cases c9 : t157 = 0
      rotate_left
      ·
       rw [if_neg c9] at H; have c9b0 := beq_eq_false_iff_ne.mpr c9; have c9b1 := bne_iff_ne.mpr c9; obtain rfl := Option.some.inj H; go_wp2; go_ret; exact ⟨by first | rfl | (simp; done) | (simp [*]; done), by repeat (first | exact dh.refl _ | apply dh.step)⟩

      rw [if_pos c9] at H; have c9b0 := beq_iff_eq.mpr c9; have c9b1 := bne_eq_false_iff_eq.mpr c9; clear c9; obtain rfl := Option.some.inj H; go_wp2; go_ret; exact ⟨by first | rfl | (simp; done) | (simp [*]; done), by repeat (first | exact dh.refl _ | apply dh.step)⟩
/-! ### jf: function 66 -/
def jf.f (k : Nat) (a0 : Int) : Option (Int × Int) := (dw.f k a0).bind fun t158 => (if t158 = 2 then ((uq.f a0).bind fun t159 => (some (t159, (-1074)))) else (if t158 = 3 then ((uq.f a0).bind fun t160 => ((wm.f a0).bind fun t161 => (some (Go.bits .or .u64 t160 4503599627370496, wrap64 (t161 - 1075))))) else (some (0, 0))))
theorem jf.mono : ∀ a0 k, LeO (jf.f k a0) (jf.f (k + 1) a0) := by
 intro a0 k
 unfold jf.f
 repeat' with_reducible first | apply dw.mono | exact LeO.refl _ | exact LeO.none _ | refine LeO.ite ?_ ?_ | refine LeO.bind ?_ (fun _ => ?_)
set_option maxHeartbeats 8000000 in
set_option maxRecDepth 100000 in
theorem jf.calls (k : Nat) (a0 : Int) (r1 : Int) (r2 : Int) (w : World) (h : jf.f k a0 = some (r1, r2)) :
  Calls Tryd.prog 66 #[.int .u64 a0] w fun e w' => e = .returned (.tuple #[.int .u64 r1, .int .i64 r2]) ∧ dh w w' := by
 have H : ((dw.f k a0).bind fun t158 => (if t158 = 2 then ((uq.f a0).bind fun t159 => (some (t159, (-1074)))) else (if t158 = 3 then ((uq.f a0).bind fun t160 => ((wm.f a0).bind fun t161 => (some (Go.bits .or .u64 t160 4503599627370496, wrap64 (t161 - 1075))))) else (some (0, 0))))) = some (r1, r2) := h; clear h; obtain ⟨t158, A2, H⟩ := ob H; (try dsimp -simprocs only at H)
 by_cases c3 : t158 = 2
 ·
  rw [if_pos c3] at H; have c3b0 := beq_iff_eq.mpr c3; have c3b1 := bne_eq_false_iff_eq.mpr c3; clear c3; obtain ⟨t159, A4, H⟩ := ob H; (try dsimp -simprocs only at H); simp only [Option.some.injEq, Prod.mk.injEq] at H; obtain ⟨rfl, rfl⟩ := H; go_enter Tryd.func66, Tryd.ntmps66
  go_wp2_with (first | ((with_reducible refine ag (f := 40) rfl ?_); refine df (some 5) rfl rfl Tryd.func40 (by kernel_rfl) rfl #[.int .u64 a0] rfl ga ?_; (with_reducible refine (dw.calls k a0 t158 _ A2.out).mono ?_); rintro e w' ⟨rfl, ⟨nd, rfl⟩⟩; refine ⟨_, rfl, ?_⟩) | ((with_reducible refine ag (f := 63) rfl ?_); refine df (some 9) rfl rfl Tryd.func63 (by kernel_rfl) rfl #[.int .u64 a0] rfl ga ?_; (with_reducible refine (uq.calls a0 t159 _ A4.out).mono ?_); rintro e w' ⟨rfl, ⟨nd, rfl⟩⟩; refine ⟨_, rfl, ?_⟩))
  go_ret2
  exact ⟨by first | rfl | (simp; done) | (simp [*]; done), by repeat (first | exact dh.refl _ | apply dh.step)⟩
 ·
  rw [if_neg c3] at H; have c3b0 := beq_eq_false_iff_ne.mpr c3; have c3b1 := bne_iff_ne.mpr c3
  by_cases c5 : t158 = 3
  rotate_left
  ·
   rw [if_neg c5] at H; have c5b0 := beq_eq_false_iff_ne.mpr c5; have c5b1 := bne_iff_ne.mpr c5; simp only [Option.some.injEq, Prod.mk.injEq] at H; obtain ⟨rfl, rfl⟩ := H; go_enter Tryd.func66, Tryd.ntmps66
   go_wp2_with (first | ((with_reducible refine ag (f := 40) rfl ?_); refine df (some 5) rfl rfl Tryd.func40 (by kernel_rfl) rfl #[.int .u64 a0] rfl ga ?_; (with_reducible refine (dw.calls k a0 t158 _ A2.out).mono ?_); rintro e w' ⟨rfl, ⟨nd, rfl⟩⟩; refine ⟨_, rfl, ?_⟩))
   go_ret2
   exact ⟨by first | rfl | (simp; done) | (simp [*]; done), by repeat (first | exact dh.refl _ | apply dh.step)⟩

  rw [if_pos c5] at H; have c5b0 := beq_iff_eq.mpr c5; have c5b1 := bne_eq_false_iff_eq.mpr c5; clear c5; obtain ⟨t160, A6, H⟩ := ob H; (try dsimp -simprocs only at H); obtain ⟨t161, A7, H⟩ := ob H; (try dsimp -simprocs only at H); simp only [Option.some.injEq, Prod.mk.injEq] at H; obtain ⟨rfl, rfl⟩ := H; go_enter Tryd.func66, Tryd.ntmps66
  go_wp2_with (first | ((with_reducible refine ag (f := 40) rfl ?_); refine df (some 5) rfl rfl Tryd.func40 (by kernel_rfl) rfl #[.int .u64 a0] rfl ga ?_; (with_reducible refine (dw.calls k a0 t158 _ A2.out).mono ?_); rintro e w' ⟨rfl, ⟨nd, rfl⟩⟩; refine ⟨_, rfl, ?_⟩) | ((with_reducible refine ag (f := 63) rfl ?_); refine df (some 13) rfl rfl Tryd.func63 (by kernel_rfl) rfl #[.int .u64 a0] rfl ga ?_; (with_reducible refine (uq.calls a0 t160 _ A6.out).mono ?_); rintro e w' ⟨rfl, ⟨nd, rfl⟩⟩; refine ⟨_, rfl, ?_⟩) | ((with_reducible refine ag (f := 43) rfl ?_); refine df (some 16) rfl rfl Tryd.func43 (by kernel_rfl) rfl #[.int .u64 a0] rfl ga ?_; (with_reducible refine (wm.calls a0 t161 _ A7.out).mono ?_); rintro e w' ⟨rfl, ⟨nd, rfl⟩⟩; refine ⟨_, rfl, ?_⟩))
  go_ret2
  exact ⟨by first | rfl | (simp; done) | (simp [*]; done), by repeat (first | exact dh.refl _ | apply dh.step)⟩
/-! ### o9: function 75 -/
def o9.f (k : Nat) (a0 : Int) : Option (Bool) := (dw.f k a0).bind fun t162 => (if t162 = 5 then (some ((Go.bits .and .u64 (a0 / 2251799813685248) 1) == 0)) else (some false))
theorem o9.mono : ∀ a0 k, LeO (o9.f k a0) (o9.f (k + 1) a0) := by
 intro a0 k
 unfold o9.f
 repeat' with_reducible first | apply dw.mono | exact LeO.refl _ | exact LeO.none _ | refine LeO.ite ?_ ?_ | refine LeO.bind ?_ (fun _ => ?_)
set_option maxHeartbeats 8000000 in
set_option maxRecDepth 100000 in
theorem o9.calls (k : Nat) (a0 : Int) (r : Bool) (w : World) (h : o9.f k a0 = some r) :
  Calls Tryd.prog 75 #[.int .u64 a0] w fun e w' => e = .returned (.bool r) ∧ dh w w' := by
 have H : ((dw.f k a0).bind fun t162 => (if t162 = 5 then (some ((Go.bits .and .u64 (a0 / 2251799813685248) 1) == 0)) else (some false))) = some r := h; clear h; obtain ⟨t162, A2, H⟩ := ob H; (try dsimp -simprocs only at H)
 by_cases c3 : t162 = 5
 rotate_left
 ·
  rw [if_neg c3] at H; have c3b0 := beq_eq_false_iff_ne.mpr c3; have c3b1 := bne_iff_ne.mpr c3; obtain rfl := Option.some.inj H; go_enter Tryd.func75, Tryd.ntmps75
  go_wp2_with (first | ((with_reducible refine ag (f := 40) rfl ?_); refine df (some 4) rfl rfl Tryd.func40 (by kernel_rfl) rfl #[.int .u64 a0] rfl ga ?_; (with_reducible refine (dw.calls k a0 t162 _ A2.out).mono ?_); rintro e w' ⟨rfl, ⟨nd, rfl⟩⟩; refine ⟨_, rfl, ?_⟩))
  go_ret; exact ⟨by first | rfl | (simp; done) | (simp [*]; done), by repeat (first | exact dh.refl _ | apply dh.step)⟩

 rw [if_pos c3] at H; have c3b0 := beq_iff_eq.mpr c3; have c3b1 := bne_eq_false_iff_eq.mpr c3; clear c3; obtain rfl := Option.some.inj H; go_enter Tryd.func75, Tryd.ntmps75
 go_wp2_with (first | ((with_reducible refine ag (f := 40) rfl ?_); refine df (some 4) rfl rfl Tryd.func40 (by kernel_rfl) rfl #[.int .u64 a0] rfl ga ?_; (with_reducible refine (dw.calls k a0 t162 _ A2.out).mono ?_); rintro e w' ⟨rfl, ⟨nd, rfl⟩⟩; refine ⟨_, rfl, ?_⟩))
 go_ret; exact ⟨by first | rfl | (simp; done) | (simp [*]; done), by repeat (first | exact dh.refl _ | apply dh.step)⟩
/-! ### jc: function 70 -/
def jc.l0 : Nat → Int → Bool → List Int → Int → Int → Option (Int × Int × Bool)
 | 0, _, _, _, _, _ => none
 | k + 1, x5, x6, x9, x10, x11 => if x11 < x10 then (if 0 ≤ x11 then (if x11 < (x9.length : Int) then ((dw.f k (rd x9 x11)).bind fun t164 => (if t164 = 5 then ((o9.f k (rd x9 x11)).bind fun t165 => (if t165 = true then (jc.l0 k 16 true x9 x10 (wrap64 (x11 + 1))) else (jc.l0 k x5 true x9 x10 (wrap64 (x11 + 1))))) else (jc.l0 k x5 x6 x9 x10 (wrap64 (x11 + 1))))) else (none)) else (none)) else (some (9221120237041090560, x5, x6))
def jc.f (k : Nat) (l0 : List Int) : Option (Int × Int × Bool) := jc.l0 k 0 false l0 (l0.length : Int) 0
theorem jc.jm : ∀ k, (∀ y0 y1 y2 y3 y4, LeO (jc.l0 k y0 y1 y2 y3 y4) (jc.l0 (k + 1) y0 y1 y2 y3 y4))
 | 0 => fun _ _ _ _ _ r h => by simp [jc.l0] at h
 | k + 1 => by
  have ih0 := jc.jm k
  ·
   intro y0 y1 y2 y3 y4
   unfold jc.l0
   repeat' with_reducible first | apply ih0 | apply dw.mono | apply o9.mono | exact LeO.refl _ | exact LeO.none _ | refine LeO.ite ?_ ?_ | refine LeO.bind ?_ (fun _ => ?_)
theorem jc.mono : ∀ a0 k, LeO (jc.f k a0) (jc.f (k + 1) a0) := by
 intro a0 k; have ih0 := jc.jm k
 unfold jc.f
 repeat' with_reducible first | apply ih0 | apply dw.mono | apply o9.mono | exact LeO.refl _ | exact LeO.none _ | refine LeO.ite ?_ ?_ | refine LeO.bind ?_ (fun _ => ?_)
set_option maxHeartbeats 8000000 in
set_option maxRecDepth 100000 in
theorem jc.calls (k : Nat) (A0 : Option Addr) (c0 : Nat) (l0 : List Int) (r1 : Int) (r2 : Int) (r3 : Bool) (w : World) (hr0 : Kd.C (Kd.int .u64) w A0 l0.length l0) (hc0 : l0.length ≤ c0) (h : jc.f k l0 = some (r1, r2, r3)) :
  Calls Tryd.prog 70 #[.slice A0 l0.length c0] w fun e w' => e = .returned (.tuple #[.int .u64 r1, .int .u8 r2, .bool r3]) ∧ dh w w' := by
 have HR0 := aa.mk hr0; have HC0 := aa.mk hc0; clear hr0 hc0; have H : (jc.l0 k 0 false l0 (l0.length : Int) 0) = some (r1, r2, r3) := h; clear h; have H' := aa.mk H; clear H; go_enter Tryd.func70, Tryd.ntmps70; go_wp2
 go_loopg [5, 6, 11] k (fun kq v5 v6 v11 w' => ∃ (x5_1 : Int) (x6_1 : Bool) (x11_1 : Int), v5 = .int .u8 x5_1 ∧ v6 = .bool x6_1 ∧ v11 = .int .i64 x11_1 ∧ aa (jc.l0 kq x5_1 x6_1 l0 (l0.length : Int) x11_1 = some (r1, r2, r3)) ∧ aa (kq ≤ k) ∧ dh w w')
 case atStart => exact ⟨(0), (false), (0), (by first | rfl | (simp; done) | (simp [*]; done)), (by first | rfl | (simp; done) | (simp [*]; done)), (by first | rfl | (simp; done) | (simp [*]; done)), H', ⟨Nat.le_refl _⟩, by repeat (first | exact dh.refl _ | apply dh.step)⟩
 case round =>
  clear H'; obtain ⟨x5_1, x6_1, x11_1, rfl, rfl, rfl, HA, HK1, ⟨m1, rfl⟩⟩ := hrel; cases gk with
  | zero => exact absurd HA.out (by simp [jc.l0])
  | succ k1 =>
   have H := HA.out; clear HA; simp only [jc.l0] at H
   by_cases c2 : x11_1 < (l0.length : Int)
   rotate_left
   ·
    rw [if_neg c2] at H; have c2b0 := decide_eq_false c2; clear c2; simp only [Option.some.injEq, Prod.mk.injEq] at H; obtain ⟨rfl, rfl, rfl⟩ := H; go_wp2
    go_ret3
    exact ⟨by first | rfl | (simp; done) | (simp [*]; done), by repeat (first | exact dh.refl _ | apply dh.step)⟩

   rw [if_pos c2] at H; have c2b0 := decide_eq_true c2; clear c2
   by_cases c3 : 0 ≤ x11_1
   rotate_left
   ·
    rw [if_neg c3] at H; exact absurd H (by simp)
   rw [if_pos c3] at H; have c3b0 : decide (0 ≤ x11_1) = true := decide_eq_true c3; clear c3
   by_cases c4 : x11_1 < (l0.length : Int)
   rotate_left
   ·
    rw [if_neg c4] at H; exact absurd H (by simp)
   rw [if_pos c4] at H; have c4b0 : decide (x11_1 < (l0.length : Int)) = true := decide_eq_true c4; clear c4; obtain ⟨t164, A5, H⟩ := ob H; (try dsimp -simprocs only at H)
   by_cases c6 : t164 = 5
   ·
    rw [if_pos c6] at H; have c6b0 := beq_iff_eq.mpr c6; have c6b1 := bne_eq_false_iff_eq.mpr c6; clear c6; obtain ⟨t165, A7, H⟩ := ob H; (try dsimp -simprocs only at H)
    by_cases c8 : t165 = true
    ·
     subst c8; rw [if_pos rfl] at H; have H' := aa.mk H; clear H; have p163 : 0 ≤ (x11_1 : Int) := of_decide_eq_true (by first | (with_reducible assumption) | assumption); have q163 : x11_1 < (l0.length : Int) := of_decide_eq_true (by first | (with_reducible assumption) | assumption); obtain ⟨ad163, e163, hx163_0⟩ := Kd.lc HR0.out x11_1 p163 q163; cases e163; replace p163 := eq_true p163; replace q163 := eq_true q163
     go_wp2_with (first | ((with_reducible refine ag (f := 40) rfl ?_); refine df (some 16) rfl rfl Tryd.func40 (by kernel_rfl) rfl #[.int .u64 (rd l0 x11_1)] rfl ga ?_; (with_reducible refine (dw.calls k1 (rd l0 x11_1) t164 _ A5.out).mono ?_); rintro e w' ⟨rfl, ⟨nd, rfl⟩⟩; refine ⟨_, rfl, ?_⟩) | ((with_reducible refine ag (f := 75) rfl ?_); refine df (some 19) rfl rfl Tryd.func75 (by kernel_rfl) rfl #[.int .u64 (rd l0 x11_1)] rfl ga ?_; (with_reducible refine (o9.calls k1 (rd l0 x11_1) true _ A7.out).mono ?_); rintro e w' ⟨rfl, ⟨nd, rfl⟩⟩; refine ⟨_, rfl, ?_⟩))
     go_roundg k1
     case measure => have := HK1.out; omega
     case rel => exact ⟨(16), (true), (wrap64 (x11_1 + 1)), (by first | rfl | (simp; done) | (simp [*]; done)), (by first | rfl | (simp; done) | (simp [*]; done)), (by first | rfl | (simp; done) | (simp [*]; done)), H', ⟨by have := HK1.out; omega⟩, by repeat (first | exact dh.refl _ | apply dh.step)⟩
    ·
     replace c8 := Bool.eq_false_iff.mpr c8; subst c8; rw [if_neg (show ¬ (false = true) by decide)] at H; have H' := aa.mk H; clear H; have p163 : 0 ≤ (x11_1 : Int) := of_decide_eq_true (by first | (with_reducible assumption) | assumption); have q163 : x11_1 < (l0.length : Int) := of_decide_eq_true (by first | (with_reducible assumption) | assumption); obtain ⟨ad163, e163, hx163_0⟩ := Kd.lc HR0.out x11_1 p163 q163; cases e163; replace p163 := eq_true p163; replace q163 := eq_true q163
     go_wp2_with (first | ((with_reducible refine ag (f := 40) rfl ?_); refine df (some 16) rfl rfl Tryd.func40 (by kernel_rfl) rfl #[.int .u64 (rd l0 x11_1)] rfl ga ?_; (with_reducible refine (dw.calls k1 (rd l0 x11_1) t164 _ A5.out).mono ?_); rintro e w' ⟨rfl, ⟨nd, rfl⟩⟩; refine ⟨_, rfl, ?_⟩) | ((with_reducible refine ag (f := 75) rfl ?_); refine df (some 19) rfl rfl Tryd.func75 (by kernel_rfl) rfl #[.int .u64 (rd l0 x11_1)] rfl ga ?_; (with_reducible refine (o9.calls k1 (rd l0 x11_1) false _ A7.out).mono ?_); rintro e w' ⟨rfl, ⟨nd, rfl⟩⟩; refine ⟨_, rfl, ?_⟩))
     go_roundg k1
     case measure => have := HK1.out; omega
     case rel => exact ⟨(x5_1), (true), (wrap64 (x11_1 + 1)), (by first | rfl | (simp; done) | (simp [*]; done)), (by first | rfl | (simp; done) | (simp [*]; done)), (by first | rfl | (simp; done) | (simp [*]; done)), H', ⟨by have := HK1.out; omega⟩, by repeat (first | exact dh.refl _ | apply dh.step)⟩
   ·
    rw [if_neg c6] at H; have c6b0 := beq_eq_false_iff_ne.mpr c6; have c6b1 := bne_iff_ne.mpr c6; have H' := aa.mk H; clear H; have p163 : 0 ≤ (x11_1 : Int) := of_decide_eq_true (by first | (with_reducible assumption) | assumption); have q163 : x11_1 < (l0.length : Int) := of_decide_eq_true (by first | (with_reducible assumption) | assumption); obtain ⟨ad163, e163, hx163_0⟩ := Kd.lc HR0.out x11_1 p163 q163; cases e163; replace p163 := eq_true p163; replace q163 := eq_true q163
    go_wp2_with (first | ((with_reducible refine ag (f := 40) rfl ?_); refine df (some 16) rfl rfl Tryd.func40 (by kernel_rfl) rfl #[.int .u64 (rd l0 x11_1)] rfl ga ?_; (with_reducible refine (dw.calls k1 (rd l0 x11_1) t164 _ A5.out).mono ?_); rintro e w' ⟨rfl, ⟨nd, rfl⟩⟩; refine ⟨_, rfl, ?_⟩))
    go_roundg k1
    case measure => have := HK1.out; omega
    case rel => exact ⟨(x5_1), (x6_1), (wrap64 (x11_1 + 1)), (by first | rfl | (simp; done) | (simp [*]; done)), (by first | rfl | (simp; done) | (simp [*]; done)), (by first | rfl | (simp; done) | (simp [*]; done)), H', ⟨by have := HK1.out; omega⟩, by repeat (first | exact dh.refl _ | apply dh.step)⟩
/-! ### bits_Mul64: function 76 -/
def bits_Mul64.f (a0 : Int) (a1 : Int) : Option (Int × Int) := some (IntKind.u64.wrap ((IntKind.u64.wrap ((IntKind.u64.wrap ((a0 / 4294967296) * (a1 / 4294967296))) + ((IntKind.u64.wrap ((IntKind.u64.wrap ((a0 / 4294967296) * (Go.bits .and .u64 a1 4294967295))) + ((IntKind.u64.wrap ((Go.bits .and .u64 a0 4294967295) * (Go.bits .and .u64 a1 4294967295))) / 4294967296))) / 4294967296))) + ((IntKind.u64.wrap ((Go.bits .and .u64 (IntKind.u64.wrap ((IntKind.u64.wrap ((a0 / 4294967296) * (Go.bits .and .u64 a1 4294967295))) + ((IntKind.u64.wrap ((Go.bits .and .u64 a0 4294967295) * (Go.bits .and .u64 a1 4294967295))) / 4294967296))) 4294967295) + (IntKind.u64.wrap ((Go.bits .and .u64 a0 4294967295) * (a1 / 4294967296))))) / 4294967296)), IntKind.u64.wrap (a0 * a1))
set_option maxHeartbeats 8000000 in
set_option maxRecDepth 100000 in
theorem bits_Mul64.calls (a0 : Int) (a1 : Int) (r1 : Int) (r2 : Int) (w : World) (h : bits_Mul64.f a0 a1 = some (r1, r2)) :
  Calls Tryd.prog 76 #[.int .u64 a0, .int .u64 a1] w fun e w' => e = .returned (.tuple #[.int .u64 r1, .int .u64 r2]) ∧ dh w w' := by
 have H : (some (IntKind.u64.wrap ((IntKind.u64.wrap ((IntKind.u64.wrap ((a0 / 4294967296) * (a1 / 4294967296))) + ((IntKind.u64.wrap ((IntKind.u64.wrap ((a0 / 4294967296) * (Go.bits .and .u64 a1 4294967295))) + ((IntKind.u64.wrap ((Go.bits .and .u64 a0 4294967295) * (Go.bits .and .u64 a1 4294967295))) / 4294967296))) / 4294967296))) + ((IntKind.u64.wrap ((Go.bits .and .u64 (IntKind.u64.wrap ((IntKind.u64.wrap ((a0 / 4294967296) * (Go.bits .and .u64 a1 4294967295))) + ((IntKind.u64.wrap ((Go.bits .and .u64 a0 4294967295) * (Go.bits .and .u64 a1 4294967295))) / 4294967296))) 4294967295) + (IntKind.u64.wrap ((Go.bits .and .u64 a0 4294967295) * (a1 / 4294967296))))) / 4294967296)), IntKind.u64.wrap (a0 * a1))) = some (r1, r2) := h; clear h; simp only [Option.some.injEq, Prod.mk.injEq] at H; obtain ⟨rfl, rfl⟩ := H; go_enter Tryd.func76, Tryd.ntmps76; go_wp2
 go_ret2
 exact ⟨by first | rfl | (simp; done) | (simp [*]; done), by repeat (first | exact dh.refl _ | apply dh.step)⟩

/-! ### Az: function 71 -/
def Az.f (a0 : Int) (a1 : Int) : Option (Int × Int) := (bits_Mul64.f a0 a1).bind fun bt167 => (some (bt167.1, bt167.2))
set_option maxHeartbeats 8000000 in
set_option maxRecDepth 100000 in
theorem Az.calls (a0 : Int) (a1 : Int) (r1 : Int) (r2 : Int) (w : World) (h : Az.f a0 a1 = some (r1, r2)) :
  Calls Tryd.prog 71 #[.int .u64 a0, .int .u64 a1] w fun e w' => e = .returned (.agg #[.int .u64 r1, .int .u64 r2]) ∧ Below w.heap.size w w' := by
 have hu65 := Tryd.underlying65; have HB := aa.mk (Below.refl w.heap.size w); have H : ((bits_Mul64.f a0 a1).bind fun bt167 => (some (bt167.1, bt167.2))) = some (r1, r2) := h; clear h; obtain ⟨⟨t167, t168⟩, A3, H⟩ := ob H; (try dsimp -simprocs only at H); simp only [Option.some.injEq, Prod.mk.injEq] at H; obtain ⟨rfl, rfl⟩ := H; go_enter Tryd.func71, Tryd.ntmps71
 go_wp2_with (first | ((with_reducible refine bq (N := 4) rfl ?_); refine l5 (N := 4) (cs := #[.int .u64 0, .int .u64 0]) (t := 65) ?_; intro gb166 hg w4 hbox hb; refine ax4 (af bel hb) hbox ((ge hg : w.heap.size ≤ gb166)) ((ge hg : w.heap.size ≤ gb166)) ?_; clear HB; intro HB BK166 GW166 GE166; clear hb hbox hg) | ((with_reducible refine ag (f := 76) rfl ?_); refine df (some 10) rfl rfl Tryd.func76 (by kernel_rfl) rfl #[.int .u64 a0, .int .u64 a1] rfl ga ?_; (with_reducible refine (bits_Mul64.calls a0 a1 t167 t168 _ A3.out).mono ?_); rintro e w' ⟨rfl, ⟨nd, rfl⟩⟩; refine ⟨_, rfl, ?_⟩; (try (rw [qm w4]; generalize hq_ : World.drewN w4 _ = w4; have n0_ : aa (w4.heap[gb166]? = some (.cells #[.int .u64 0, .int .u64 0] 65 (0, 0))) := ⟨by rw [← hq_]; exact (kb BK166)⟩; have n1_ : aa (Below w.heap.size w w4) := ⟨by rw [← hq_]; exact bes⟩; clear BK166 HB hq_; have BK166 := n0_; have HB := n1_; clear n0_ n1_)); have ⟨_, _⟩ := cf BK166 0 rfl; have ⟨_, _⟩ := cf BK166 1 rfl))
 refine bodyPost_ret (results_cell_row rfl _ _ gb166 65 #[.int .u64 t167, .int .u64 t168] (0, 0) _ rfl (bp BK166) Tryd.underlying65 rfl (by kernel_rfl)) rfl ?_; exact ⟨er, bes⟩

/-! ### il: function 59 -/
def il.j0 : Nat → Int → Int → Bool → Int → Int → Bool → Option (Int × Int)
 | 0, _, _, _, _, _, _ => none
 | k + 1, x0, x1, x9, x10, x11, x36 => if x36 = true then (some (9221120237041090560, 16)) else (if x10 = 4 then ((ko.f x9 2047 0).bind fun t179 => (some (t179, 0))) else (if x11 = 4 then ((ko.f x9 2047 0).bind fun t180 => (some (t180, 0))) else ((jf.f k x0).bind fun bt181 => ((jf.f k x1).bind fun bt183 => ((Az.f bt181.1 bt183.1).bind fun bt185 => ((aj.f k x9 bt185.1 bt185.2 (wrap64 (bt181.2 + bt183.2)) false).bind fun bt187 => (some (bt187.1, bt187.2))))))))
def il.f (k : Nat) (a0 : Int) (a1 : Int) : Option (Int × Int) := (jc.f k (([a0, a1] : List Int))).bind fun bt172 => (if bt172.2.2 = true then (some (bt172.1, bt172.2.1)) else ((lh.f a0).bind fun t175 => ((lh.f a1).bind fun t176 => ((dw.f k a0).bind fun t177 => ((dw.f k a1).bind fun t178 => (if t177 = 4 then (if t178 = 1 then (il.j0 k a0 a1 (t175 != t176) t177 t178 true) else (if t177 = 1 then (il.j0 k a0 a1 (t175 != t176) t177 t178 (t178 == 4)) else (il.j0 k a0 a1 (t175 != t176) t177 t178 false))) else (if t177 = 1 then (il.j0 k a0 a1 (t175 != t176) t177 t178 (t178 == 4)) else (il.j0 k a0 a1 (t175 != t176) t177 t178 false))))))))
theorem il.jm : ∀ k, (∀ y0 y1 y2 y3 y4 y5, LeO (il.j0 k y0 y1 y2 y3 y4 y5) (il.j0 (k + 1) y0 y1 y2 y3 y4 y5))
 | 0 => fun _ _ _ _ _ _ r h => by simp [il.j0] at h
 | k + 1 => by
  have ih0 := il.jm k
  ·
   intro y0 y1 y2 y3 y4 y5
   unfold il.j0
   repeat' with_reducible first | apply ih0 | apply aj.mono | apply jc.mono | apply dw.mono | apply jf.mono | exact LeO.refl _ | exact LeO.none _ | refine LeO.ite ?_ ?_ | refine LeO.bind ?_ (fun _ => ?_)
theorem il.mono : ∀ a0 a1 k, LeO (il.f k a0 a1) (il.f (k + 1) a0 a1) := by
 intro a0 a1 k; have ih0 := il.jm k
 unfold il.f
 repeat' with_reducible first | apply ih0 | apply aj.mono | apply jc.mono | apply dw.mono | apply jf.mono | exact LeO.refl _ | exact LeO.none _ | refine LeO.ite ?_ ?_ | refine LeO.bind ?_ (fun _ => ?_)
set_option maxHeartbeats 8000000 in
set_option maxRecDepth 100000 in
theorem il.calls (k : Nat) (a0 : Int) (a1 : Int) (r1 : Int) (r2 : Int) (w : World) (h : il.f k a0 a1 = some (r1, r2)) :
  Calls Tryd.prog 59 #[.int .u64 a0, .int .u64 a1] w fun e w' => e = .returned (.tuple #[.int .u64 r1, .int .u8 r2]) ∧ Below w.heap.size w w' := by
 have HB := aa.mk (Below.refl w.heap.size w); have H : ((jc.f k (([a0, a1] : List Int))).bind fun bt172 => (if bt172.2.2 = true then (some (bt172.1, bt172.2.1)) else ((lh.f a0).bind fun t175 => ((lh.f a1).bind fun t176 => ((dw.f k a0).bind fun t177 => ((dw.f k a1).bind fun t178 => (if t177 = 4 then (if t178 = 1 then (il.j0 k a0 a1 (t175 != t176) t177 t178 true) else (if t177 = 1 then (il.j0 k a0 a1 (t175 != t176) t177 t178 (t178 == 4)) else (il.j0 k a0 a1 (t175 != t176) t177 t178 false))) else (if t177 = 1 then (il.j0 k a0 a1 (t175 != t176) t177 t178 (t178 == 4)) else (il.j0 k a0 a1 (t175 != t176) t177 t178 false))))))))) = some (r1, r2) := h; clear h; obtain ⟨y169, hy169⟩ : ∃ y_ : List Int, y_ = (([a0, a1] : List Int)) := ⟨_, rfl⟩; replace H : ((jc.f k y169).bind fun bt172 => (if bt172.2.2 = true then (some (bt172.1, bt172.2.1)) else ((lh.f a0).bind fun t175 => ((lh.f a1).bind fun t176 => ((dw.f k a0).bind fun t177 => ((dw.f k a1).bind fun t178 => (if t177 = 4 then (if t178 = 1 then (il.j0 k a0 a1 (t175 != t176) t177 t178 true) else (if t177 = 1 then (il.j0 k a0 a1 (t175 != t176) t177 t178 (t178 == 4)) else (il.j0 k a0 a1 (t175 != t176) t177 t178 false))) else (if t177 = 1 then (il.j0 k a0 a1 (t175 != t176) t177 t178 (t178 == 4)) else (il.j0 k a0 a1 (t175 != t176) t177 t178 false))))))))) = some (r1, r2) := by first | (rw [hy169]; with_reducible exact H) | (have H2_ := (Option.bind_some _ _).symm.trans H; rw [hy169]; with_reducible exact H2_) | (have H2_ := (Option.bind_some _ _).symm.trans H; with_reducible exact H2_) | with_reducible exact H | (rw [hy169]; exact H) | exact H
 have Ny169 := aa.mk hy169; clear hy169; obtain ⟨⟨t172, t173, t174⟩, A3, H⟩ := ob H; (try dsimp -simprocs only at H)
 by_cases c4 : t174 = true
 ·
  subst c4; rw [if_pos rfl] at H; simp only [Option.some.injEq, Prod.mk.injEq] at H; obtain ⟨rfl, rfl⟩ := H; go_enter Tryd.func59, Tryd.ntmps59
  go_wp2_with (first | ((with_reducible refine bq (N := 19) rfl ?_); refine Kd.Cj (Kd.int .u64) _ 24 ?hg (N := 19) ?hd (xs := ([a0, a1] : List Int)) (inner := [.int .u64 a0, .int .u64 a1]) (ok := fun _ => True) (okp := fun _ => True) ?hr ?hp (fun _ hk => hk) trivial (Below.refl _ _) (Nat.le_refl _) (by simp) ?_; (case hd => rfl); (case hg => rfl); (case hr => first | (go_simp; done) | (go_simp; rfl)); (case hp => exact (qj.one (show Kd.M (Kd.int .u64) _ _ _ a0 [.int .u64 a0] from rfl) (qj.one (show Kd.M (Kd.int .u64) _ _ _ a1 [.int .u64 a1] from rfl) (qj.none _ _)))); intro v170 w5 ho6 hb hg_ hnew_; clear hg_ hnew_; (first | rw [← Ny169.out] at ho6 | (simp only [Int.reduceToNat] at ho6; rw [← Ny169.out] at ho6)); refine ax2 (Kd.pg ho6 (az bel)) (af bel hb) ?_; clear HB; intro HO171 HB; clear hb ho6; obtain ⟨Ao7, co7, eo7⟩ := Kd.mg HO171.out; subst eo7) | ((with_reducible refine ag (f := 70) rfl ?_); refine df (some 20) rfl rfl Tryd.func70 (by kernel_rfl) rfl #[.slice Ao7 y169.length co7] rfl ga ?_; (with_reducible refine (jc.calls k _ _ y169 t172 t173 true _ ?side1 ?side2 A3.out).mono ?_); (case side1 => exact ks HO171); (case side2 => exact (Kd.jq HO171.out).2.1); rintro e w' ⟨rfl, ⟨nd, rfl⟩⟩; refine ⟨_, rfl, ?_⟩))
  go_ret2
  exact ⟨er, bel⟩
 ·
  replace c4 := Bool.eq_false_iff.mpr c4; subst c4; rw [if_neg (show ¬ (false = true) by decide)] at H; obtain ⟨t175, A8, H⟩ := ob H; (try dsimp -simprocs only at H); obtain ⟨t176, A9, H⟩ := ob H; (try dsimp -simprocs only at H); obtain ⟨t177, A10, H⟩ := ob H; (try dsimp -simprocs only at H); obtain ⟨t178, A11, H⟩ := ob H; (try dsimp -simprocs only at H); have HC12 := aa.mk H; clear H; go_enter Tryd.func59, Tryd.ntmps59
  go_upto_region 6 with (first | ((with_reducible refine bq (N := 19) rfl ?_); refine Kd.Cj (Kd.int .u64) _ 24 ?hg (N := 19) ?hd (xs := ([a0, a1] : List Int)) (inner := [.int .u64 a0, .int .u64 a1]) (ok := fun _ => True) (okp := fun _ => True) ?hr ?hp (fun _ hk => hk) trivial (Below.refl _ _) (Nat.le_refl _) (by simp) ?_; (case hd => rfl); (case hg => rfl); (case hr => first | (go_simp; done) | (go_simp; rfl)); (case hp => exact (qj.one (show Kd.M (Kd.int .u64) _ _ _ a0 [.int .u64 a0] from rfl) (qj.one (show Kd.M (Kd.int .u64) _ _ _ a1 [.int .u64 a1] from rfl) (qj.none _ _)))); intro v170 w13 ho14 hb hg_ hnew_; clear hg_ hnew_; (first | rw [← Ny169.out] at ho14 | (simp only [Int.reduceToNat] at ho14; rw [← Ny169.out] at ho14)); refine ax2 (Kd.pg ho14 (az bel)) (af bel hb) ?_; clear HB; intro HO171 HB; clear hb ho14; obtain ⟨Ao15, co15, eo15⟩ := Kd.mg HO171.out; subst eo15) | ((with_reducible refine ag (f := 70) rfl ?_); refine df (some 20) rfl rfl Tryd.func70 (by kernel_rfl) rfl #[.slice Ao15 y169.length co15] rfl ga ?_; (with_reducible refine (jc.calls k _ _ y169 t172 t173 false _ ?side1 ?side2 A3.out).mono ?_); (case side1 => exact ks HO171); (case side2 => exact (Kd.jq HO171.out).2.1); rintro e w' ⟨rfl, ⟨nd, rfl⟩⟩; refine ⟨_, rfl, ?_⟩) | ((with_reducible refine ag (f := 29) rfl ?_); refine df (some 28) rfl rfl Tryd.func29 (by kernel_rfl) rfl #[.int .u64 a0] rfl ga ?_; (with_reducible refine (lh.calls a0 t175 _ A8.out).mono ?_); rintro e w' ⟨rfl, ⟨nd, rfl⟩⟩; refine ⟨_, rfl, ?_⟩) | ((with_reducible refine ag (f := 29) rfl ?_); refine df (some 30) rfl rfl Tryd.func29 (by kernel_rfl) rfl #[.int .u64 a1] rfl ga ?_; (with_reducible refine (lh.calls a1 t176 _ A9.out).mono ?_); rintro e w' ⟨rfl, ⟨nd, rfl⟩⟩; refine ⟨_, rfl, ?_⟩) | ((with_reducible refine ag (f := 40) rfl ?_); refine df (some 33) rfl rfl Tryd.func40 (by kernel_rfl) rfl #[.int .u64 a0] rfl ga ?_; (with_reducible refine (dw.calls k a0 t177 _ A10.out).mono ?_); rintro e w' ⟨rfl, ⟨nd, rfl⟩⟩; refine ⟨_, rfl, ?_⟩) | ((with_reducible refine ag (f := 40) rfl ?_); refine df (some 35) rfl rfl Tryd.func40 (by kernel_rfl) rfl #[.int .u64 a1] rfl ga ?_; (with_reducible refine (dw.calls k a1 t178 _ A11.out).mono ?_); rintro e w' ⟨rfl, ⟨nd, rfl⟩⟩; refine ⟨_, rfl, ?_⟩))
  (try simp only [Act.put, sa0, sa1, sa2])
  go_cut [9, 36] (fun v9 v36 wc => ∃ (kq : Nat) (x9_11 : Bool) (x36_11 : Bool), v9 = .bool x9_11 ∧ v36 = .bool x36_11 ∧ aa (il.j0 kq a0 a1 x9_11 t177 t178 x36_11 = some (r1, r2)) ∧ aa (kq ≤ k) ∧ aa (Below w.heap.size w wc))
  case first =>
   have H := HC12.out; clear HC12
   by_cases c16 : t177 = 4
   ·
    rw [if_pos c16] at H; have c16b0 := beq_iff_eq.mpr c16; have c16b1 := bne_eq_false_iff_eq.mpr c16; clear c16
    (first | rw [c16b0] | (simp only [jw, l8]; rw [c16b0]) | skip)
    by_cases c17 : t178 = 1
    ·
     rw [if_pos c17] at H; have c17b0 := beq_iff_eq.mpr c17; have c17b1 := bne_eq_false_iff_eq.mpr c17; clear c17; have H' := aa.mk H; clear H; go_wp2; go_meet
     case rel => exact ⟨_, ((t175 != t176)), (true), (by first | rfl | (simp; done) | (simp [*]; done)), (by first | rfl | (simp; done) | (simp [*]; done)), H', ⟨by first | omega | exact Nat.le_refl _⟩, ⟨bel⟩⟩
    ·
     rw [if_neg c17] at H; have c17b0 := beq_eq_false_iff_ne.mpr c17; have c17b1 := bne_iff_ne.mpr c17
     by_cases c18 : t177 = 1
     rotate_left
     ·
      rw [if_neg c18] at H; have c18b0 := beq_eq_false_iff_ne.mpr c18; have c18b1 := bne_iff_ne.mpr c18; have H' := aa.mk H; clear H; go_wp2; go_meet
      case rel => exact ⟨_, ((t175 != t176)), (false), (by first | rfl | (simp; done) | (simp [*]; done)), (by first | rfl | (simp; done) | (simp [*]; done)), H', ⟨by first | omega | exact Nat.le_refl _⟩, ⟨bel⟩⟩
     rw [if_pos c18] at H; have c18b0 := beq_iff_eq.mpr c18; have c18b1 := bne_eq_false_iff_eq.mpr c18; clear c18; have H' := aa.mk H; clear H; go_wp2; go_meet
     case rel => exact ⟨_, ((t175 != t176)), ((t178 == 4)), (by first | rfl | (simp; done) | (simp [*]; done)), (by first | rfl | (simp; done) | (simp [*]; done)), H', ⟨by first | omega | exact Nat.le_refl _⟩, ⟨bel⟩⟩
   ·
    rw [if_neg c16] at H; have c16b0 := beq_eq_false_iff_ne.mpr c16; have c16b1 := bne_iff_ne.mpr c16
    (first | rw [c16b0] | (simp only [jw, l8]; rw [c16b0]) | skip)
    by_cases c19 : t177 = 1
    rotate_left
    ·
     rw [if_neg c19] at H; have c19b0 := beq_eq_false_iff_ne.mpr c19; have c19b1 := bne_iff_ne.mpr c19; have H' := aa.mk H; clear H; go_wp2; go_meet
     case rel => exact ⟨_, ((t175 != t176)), (false), (by first | rfl | (simp; done) | (simp [*]; done)), (by first | rfl | (simp; done) | (simp [*]; done)), H', ⟨by first | omega | exact Nat.le_refl _⟩, ⟨bel⟩⟩
    rw [if_pos c19] at H; have c19b0 := beq_iff_eq.mpr c19; have c19b1 := bne_eq_false_iff_eq.mpr c19; clear c19; have H' := aa.mk H; clear H; go_wp2; go_meet
    case rel => exact ⟨_, ((t175 != t176)), ((t178 == 4)), (by first | rfl | (simp; done) | (simp [*]; done)), (by first | rfl | (simp; done) | (simp [*]; done)), H', ⟨by first | omega | exact Nat.le_refl _⟩, ⟨bel⟩⟩
  case rest =>
   clear HC12
   obtain ⟨kq, x9_11, x36_11, rfl, rfl, HA, HJ11, HB⟩ := hcut; cases kq with
   | zero => exact absurd HA.out (by simp [il.j0])
   | succ kj11 =>
    have H := HA.out; clear HA; simp only [il.j0] at H
    by_cases c20 : x36_11 = true
    ·
     subst c20; rw [if_pos rfl] at H; simp only [Option.some.injEq, Prod.mk.injEq] at H; obtain ⟨rfl, rfl⟩ := H; go_wp2
     go_ret2
     exact ⟨er, bel⟩
    ·
     replace c20 := Bool.eq_false_iff.mpr c20; subst c20; rw [if_neg (show ¬ (false = true) by decide)] at H
     by_cases c21 : t177 = 4
     ·
      rw [if_pos c21] at H; have c21b0 := beq_iff_eq.mpr c21; have c21b1 := bne_eq_false_iff_eq.mpr c21; clear c21; obtain ⟨t179, A22, H⟩ := ob H; (try dsimp -simprocs only at H); simp only [Option.some.injEq, Prod.mk.injEq] at H; obtain ⟨rfl, rfl⟩ := H
      go_wp2_with (first | ((with_reducible refine ag (f := 54) rfl ?_); refine df (some 59) rfl rfl Tryd.func54 (by kernel_rfl) rfl #[.bool x9_11, .int .i64 2047, .int .u64 0] rfl ga ?_; (with_reducible refine (ko.calls x9_11 2047 0 t179 _ A22.out).mono ?_); rintro e w' ⟨rfl, ⟨nd, rfl⟩⟩; refine ⟨_, rfl, ?_⟩))
      go_ret2
      exact ⟨er, bel⟩
     ·
      rw [if_neg c21] at H; have c21b0 := beq_eq_false_iff_ne.mpr c21; have c21b1 := bne_iff_ne.mpr c21
      by_cases c23 : t178 = 4
      ·
       rw [if_pos c23] at H; have c23b0 := beq_iff_eq.mpr c23; have c23b1 := bne_eq_false_iff_eq.mpr c23; clear c23; obtain ⟨t180, A24, H⟩ := ob H; (try dsimp -simprocs only at H); simp only [Option.some.injEq, Prod.mk.injEq] at H; obtain ⟨rfl, rfl⟩ := H
       go_wp2_with (first | ((with_reducible refine ag (f := 54) rfl ?_); refine df (some 59) rfl rfl Tryd.func54 (by kernel_rfl) rfl #[.bool x9_11, .int .i64 2047, .int .u64 0] rfl ga ?_; (with_reducible refine (ko.calls x9_11 2047 0 t180 _ A24.out).mono ?_); rintro e w' ⟨rfl, ⟨nd, rfl⟩⟩; refine ⟨_, rfl, ?_⟩))
       go_ret2
       exact ⟨er, bel⟩
      ·
       rw [if_neg c23] at H; have c23b0 := beq_eq_false_iff_ne.mpr c23; have c23b1 := bne_iff_ne.mpr c23; obtain ⟨⟨t181, t182⟩, A25, H⟩ := ob H; (try dsimp -simprocs only at H); obtain ⟨⟨t183, t184⟩, A26, H⟩ := ob H; (try dsimp -simprocs only at H); obtain ⟨⟨t185, t186⟩, A27, H⟩ := ob H; (try dsimp -simprocs only at H); obtain ⟨⟨t187, t188⟩, A28, H⟩ := ob H; (try dsimp -simprocs only at H); simp only [Option.some.injEq, Prod.mk.injEq] at H; obtain ⟨rfl, rfl⟩ := H
       go_wp2_with (first | ((with_reducible refine ag (f := 66) rfl ?_); refine df (some 62) rfl rfl Tryd.func66 (by kernel_rfl) rfl #[.int .u64 a0] rfl ga ?_; (with_reducible refine (jf.calls kj11 a0 t181 t182 _ A25.out).mono ?_); rintro e w' ⟨rfl, ⟨nd, rfl⟩⟩; refine ⟨_, rfl, ?_⟩) | ((with_reducible refine ag (f := 66) rfl ?_); refine df (some 67) rfl rfl Tryd.func66 (by kernel_rfl) rfl #[.int .u64 a1] rfl ga ?_; (with_reducible refine (jf.calls kj11 a1 t183 t184 _ A26.out).mono ?_); rintro e w' ⟨rfl, ⟨nd, rfl⟩⟩; refine ⟨_, rfl, ?_⟩) | ((with_reducible refine ag (f := 71) rfl ?_); refine df (some 73) rfl rfl Tryd.func71 (by kernel_rfl) rfl #[.int .u64 t181, .int .u64 t183] rfl ga ?_; (with_reducible refine (Az.calls t181 t183 t185 t186 _ A27.out).mono ?_); rintro e w29 ⟨rfl, hb⟩; refine ⟨_, rfl, ?_⟩; refine ax1 (af bel hb) ?_; clear HB; intro HB; (try clear hb)) | ((with_reducible refine ag (f := 35) rfl ?_); refine df (some 77) rfl rfl Tryd.func35 (by kernel_rfl) rfl #[.bool x9_11, .agg #[.int .u64 t185, .int .u64 t186], .int .i64 (wrap64 (t182 + t184)), .bool false] rfl ga ?_; (with_reducible refine (aj.calls kj11 x9_11 t185 t186 (wrap64 (t182 + t184)) false t187 t188 _ A28.out).mono ?_); rintro e w30 ⟨rfl, hb⟩; refine ⟨_, rfl, ?_⟩; refine ax1 (af bel hb) ?_; clear HB; intro HB; (try clear hb)))
       go_ret2
       exact ⟨er, bel⟩

/-! ### o7: function 37 -/
def o7.f (k : Nat) (s0_0 : Int) (a1 : Int) (a2 : Int) : Option (Int × Int) := (il.f k a1 a2).bind fun bt189 => ((oq.f s0_0 bt189.1 bt189.2).bind fun bt191 => (some (bt191.1, bt191.2)))
theorem o7.mono : ∀ a0 a1 a2 k, LeO (o7.f k a0 a1 a2) (o7.f (k + 1) a0 a1 a2) := by
 intro a0 a1 a2 k
 unfold o7.f
 repeat' with_reducible first | apply il.mono | exact LeO.refl _ | exact LeO.none _ | refine LeO.ite ?_ ?_ | refine LeO.bind ?_ (fun _ => ?_)
set_option maxHeartbeats 8000000 in
set_option maxRecDepth 100000 in
theorem o7.calls (k : Nat) (g : Nat) (s0_0 : Int) (a1 : Int) (a2 : Int) (r1 : Int) (r2 : Int) (w0 w : World) (hI : di w0 w g s0_0) (hB : Below w0.heap.size w0 w) (h : o7.f k s0_0 a1 a2 = some (r1, r2)) :
  Calls Tryd.prog 37 #[.pointer (some ⟨g, 0, none⟩), .int .u64 a1, .int .u64 a2] w fun e w' => e = .returned (.int .u64 r1) ∧ di w0 w' g r2 ∧ Below w0.heap.size w0 w' ∧ fw w w' g none := by
 have HI0 := aa.mk hI; have HK := aa.mk (fw.refl w g none); have HL := aa.mk hB.size; clear hI; have HW0 := aa.mk hB.size; have HB := aa.mk hB; clear hB; have H : ((il.f k a1 a2).bind fun bt189 => ((oq.f s0_0 bt189.1 bt189.2).bind fun bt191 => (some (bt191.1, bt191.2)))) = some (r1, r2) := h; clear h; obtain ⟨⟨t189, t190⟩, A4, H⟩ := ob H; (try dsimp -simprocs only at H); obtain ⟨⟨t191, t192⟩, A5, H⟩ := ob H; (try dsimp -simprocs only at H); simp only [Option.some.injEq, Prod.mk.injEq] at H; obtain ⟨rfl, rfl⟩ := H; go_enter Tryd.func37, Tryd.ntmps37
 go_wp2_with (first | ((with_reducible refine ag (f := 59) rfl ?_); refine df (some 10) rfl rfl Tryd.func59 (by kernel_rfl) rfl #[.int .u64 a1, .int .u64 a2] rfl ga ?_; (with_reducible refine (il.calls k a1 a2 t189 t190 _ A4.out).mono ?_); rintro e w6 ⟨rfl, hb⟩; refine ⟨_, rfl, ?_⟩; refine ax3 (di.below (yg HI0) hb) (fw.trans (kz HK) (fw.of_below hb g none) (.inl rfl)) (af zm hb) ?_; clear HI0; clear HK; clear HB; intro HI0 HK HB; (try clear hb)) | ((with_reducible refine ag (f := 58) rfl ?_); refine df (some 13) rfl rfl Tryd.func58 (by kernel_rfl) rfl #[.pointer (some ⟨g, 0, none⟩), .int .u64 t189, .int .u8 t190] rfl ga ?_; (with_reducible refine (oq.calls g s0_0 t189 t190 t191 t192 w0 _ ?side1 ?side2 A5.out).mono ?_); (case side1 => repeat (first | (with_reducible first | exact HI0.out | apply di.alloc | apply di.drewN | apply di.drew | apply di.Bb) | exact HI0.out)); (case side2 => repeat (first | (with_reducible first | exact HB.out | apply ji | apply iy | apply gy | refine jl ?_ (di.ge HI0.out)) | exact HB.out)); rintro e w7 ⟨rfl, hi, hb, hk⟩; refine ⟨_, rfl, ?_⟩; refine ax3 (fw.trans (kz HK) hk (.inl rfl)) hb hi ?_; clear HK; clear HB; clear HI0; intro HK HB HI0; (try clear hb)))
 go_ret; exact ⟨er, by repeat (first | (with_reducible first | exact HI0.out | apply di.alloc | apply di.drewN | apply di.drew | apply di.Bb) | exact HI0.out), by repeat (first | (with_reducible first | exact HB.out | apply ji | apply iy | apply gy | refine jl ?_ (di.ge HI0.out)) | exact HB.out), by repeat (first | (with_reducible first | exact HK.out | apply fw.set_ | apply xy | apply xh | apply xu) | exact HK.out)⟩

/-! ### nu: function 37 -/
def nu.f (k : Nat)  (a1 : Int) (a2 : Int) : Option (Int) := (il.f k a1 a2).bind fun bt193 => ((l6.f bt193.1 bt193.2).bind fun t195 => (some t195))
theorem nu.mono : ∀ a0 a1 k, LeO (nu.f k a0 a1) (nu.f (k + 1) a0 a1) := by
 intro a0 a1 k
 unfold nu.f
 repeat' with_reducible first | apply il.mono | exact LeO.refl _ | exact LeO.none _ | refine LeO.ite ?_ ?_ | refine LeO.bind ?_ (fun _ => ?_)
set_option maxHeartbeats 8000000 in
set_option maxRecDepth 100000 in
theorem nu.calls (k : Nat)  (a1 : Int) (a2 : Int) (r : Int) (w : World) (h : nu.f k a1 a2 = some r) :
  Calls Tryd.prog 37 #[.pointer none, .int .u64 a1, .int .u64 a2] w fun e w' => e = .returned (.int .u64 r) ∧ Below w.heap.size w w' := by
 have HB := aa.mk (Below.refl w.heap.size w); have H : ((il.f k a1 a2).bind fun bt193 => ((l6.f bt193.1 bt193.2).bind fun t195 => (some t195))) = some r := h; clear h; obtain ⟨⟨t193, t194⟩, A4, H⟩ := ob H; (try dsimp -simprocs only at H); obtain ⟨t195, A5, H⟩ := ob H; (try dsimp -simprocs only at H); obtain rfl := Option.some.inj H; go_enter Tryd.func37, Tryd.ntmps37
 go_wp2_with (first | ((with_reducible refine ag (f := 59) rfl ?_); refine df (some 10) rfl rfl Tryd.func59 (by kernel_rfl) rfl #[.int .u64 a1, .int .u64 a2] rfl ga ?_; (with_reducible refine (il.calls k a1 a2 t193 t194 _ A4.out).mono ?_); rintro e w6 ⟨rfl, hb⟩; refine ⟨_, rfl, ?_⟩; refine ax1 (af bel hb) ?_; clear HB; intro HB; (try clear hb)) | ((with_reducible refine ag (f := 58) rfl ?_); refine df (some 13) rfl rfl Tryd.func58 (by kernel_rfl) rfl #[.pointer none, .int .u64 t193, .int .u8 t194] rfl ga ?_; (with_reducible refine (l6.calls  t193 t194 t195 _ A5.out).mono ?_); rintro e w' ⟨rfl, ⟨nd, rfl⟩⟩; refine ⟨_, rfl, ?_⟩))
 go_ret; exact ⟨er, bel⟩

/-! ### zu: function 60 -/
def zu.f (a0 : Int) (a1 : Int) : Option (Int × Int) := some (wrap64 (a0 + 1), a1)
set_option maxHeartbeats 8000000 in
set_option maxRecDepth 100000 in
theorem zu.calls (a0 : Int) (a1 : Int) (r1 : Int) (r2 : Int) (w : World) (h : zu.f a0 a1 = some (r1, r2)) :
  Calls Tryd.prog 60 #[.int .i64 a0, .int .i64 a1] w fun e w' => e = .returned (.tuple #[.int .i64 r1, .int .i64 r2]) ∧ dh w w' := by
 have H : (some (wrap64 (a0 + 1), a1)) = some (r1, r2) := h; clear h; simp only [Option.some.injEq, Prod.mk.injEq] at H; obtain ⟨rfl, rfl⟩ := H; go_enter Tryd.func60, Tryd.ntmps60; go_wp2
 go_ret2
 exact ⟨by first | rfl | (simp; done) | (simp [*]; done), by repeat (first | exact dh.refl _ | apply dh.step)⟩

/-! ### zt: function 61 -/
def zt.f (a0 : Int) (a1 : Int) : Option (Int × Int) := some (0, a0)
set_option maxHeartbeats 8000000 in
set_option maxRecDepth 100000 in
theorem zt.calls (a0 : Int) (a1 : Int) (r1 : Int) (r2 : Int) (w : World) (h : zt.f a0 a1 = some (r1, r2)) :
  Calls Tryd.prog 61 #[.int .i64 a0, .int .i64 a1] w fun e w' => e = .returned (.tuple #[.int .i64 r1, .int .i64 r2]) ∧ dh w w' := by
 have H : (some (0, a0)) = some (r1, r2) := h; clear h; simp only [Option.some.injEq, Prod.mk.injEq] at H; obtain ⟨rfl, rfl⟩ := H; go_enter Tryd.func61, Tryd.ntmps61; go_wp2
 go_ret2
 exact ⟨by first | rfl | (simp; done) | (simp [*]; done), by repeat (first | exact dh.refl _ | apply dh.step)⟩

/-! ### solve_of: function 38 -/
theorem run_store_func {P : Program} {w : World} {a : Addr} {m : Mode} (f : Fn) (fs cs : Array Value) : (store a (.func f fs cs) m).run P w = stored P w a (.func f fs cs) m := run_store P w a _ m rfl
theorem sel_run75 (f : Fn) (fs cs : Array Value) (w : World) : (Instr.field 75 (.agg #[.func f fs cs]) 0).run Tryd.prog w = .ok (.func f fs cs) w := by
  have hu := Tryd.underlying75; have h2 := Tryd.underlying73
  unfold Instr.field part
  simp [go_sem, hu, h2]
  rfl
attribute [local go_sem] run_store_func
def zy.f (a0 : Bool) : Option Bool := if a0 = true then some true else none
theorem zy.calls (a0 : Bool) (r : Bool) (w : World) (h : zy.f a0 = some r) :
  Calls Tryd.prog 38 #[.bool a0] w fun e w' => e = .returned (.agg #[.func (.func 60) #[] #[]]) ∧ Below w.heap.size w w' := by
 have HB := aa.mk (Below.refl w.heap.size w); have hu := Tryd.underlying75; have c : a0 = true := by unfold zy.f at h; cases a0 <;> simp at h ⊢
 subst c; clear h; go_enter Tryd.func38, Tryd.ntmps38
 go_wp2_with (first | ((with_reducible refine bq (N := 2) rfl ?_); refine l5 (N := 2) (cs := #[.nilFunc]) (t := 75) ?_; intro gb1 hg w5 hbox hb; have n1_ := aa.mk (af bel hb); have n2_ := aa.mk (hbox); have n3_ := aa.mk ((ge hg : w.heap.size ≤ gb1)); clear HB; have HB := n1_; have BK1 := n2_; have GE1 := n3_; clear n1_ n2_ n3_; clear hb hbox hg; have hcz : w5.cell? ⟨gb1, 0, none⟩ = some .nilFunc := bk BK1 0; have hfz := jr BK1.out 0))
 refine bodyPost_ret (results_cell_row rfl _ _ gb1 75 #[.func (.func 60) #[] #[]] (0, 0) _ rfl (bp BK1) Tryd.underlying75 rfl (by kernel_rfl)) rfl ?_; exact ⟨er, bes⟩
def zq.f (a0 : Bool) : Option Bool := if a0 = false then some true else none
theorem zq.calls (a0 : Bool) (r : Bool) (w : World) (h : zq.f a0 = some r) :
  Calls Tryd.prog 38 #[.bool a0] w fun e w' => e = .returned (.agg #[.func (.func 61) #[] #[]]) ∧ Below w.heap.size w w' := by
 have HB := aa.mk (Below.refl w.heap.size w); have hu := Tryd.underlying75; have c : a0 = false := by unfold zq.f at h; cases a0 <;> simp at h ⊢
 subst c; clear h; go_enter Tryd.func38, Tryd.ntmps38
 go_wp2_with (first | ((with_reducible refine bq (N := 2) rfl ?_); refine l5 (N := 2) (cs := #[.nilFunc]) (t := 75) ?_; intro gb1 hg w5 hbox hb; have n1_ := aa.mk (af bel hb); have n2_ := aa.mk (hbox); have n3_ := aa.mk ((ge hg : w.heap.size ≤ gb1)); clear HB; have HB := n1_; have BK1 := n2_; have GE1 := n3_; clear n1_ n2_ n3_; clear hb hbox hg; have hcz : w5.cell? ⟨gb1, 0, none⟩ = some .nilFunc := bk BK1 0; have hfz := jr BK1.out 0))
 refine bodyPost_ret (results_cell_row rfl _ _ gb1 75 #[.func (.func 61) #[] #[]] (0, 0) _ rfl (bp BK1) Tryd.underlying75 rfl (by kernel_rfl)) rfl ?_; exact ⟨er, bes⟩
/-! ### Ae: function 30 -/
def Ae.f (a0 : Int) : Option (Int) := some (Go.bits .andNot .u64 a0 9223372036854775808)
set_option maxHeartbeats 8000000 in
set_option maxRecDepth 100000 in
theorem Ae.calls (a0 : Int) (r : Int) (w : World) (h : Ae.f a0 = some r) :
  Calls Tryd.prog 30 #[.int .u64 a0] w fun e w' => e = .returned (.int .u64 r) ∧ dh w w' := by
 have H : (some (Go.bits .andNot .u64 a0 9223372036854775808)) = some r := h; clear h; obtain rfl := Option.some.inj H; go_enter Tryd.func30, Tryd.ntmps30; go_wp2; go_ret; exact ⟨by first | rfl | (simp; done) | (simp [*]; done), by repeat (first | exact dh.refl _ | apply dh.step)⟩

/-! ### bits_Sub64: function 77 -/
def F3 : Array Value → Sem Value := fun args => do
 let (x, y, b) ← Extern.MathBitsCarry.three "Sub64" args
 pure (Extern.MathBitsCarry.pair ((x + Extern.MathBitsCarry.m64 - y - b) % Extern.MathBitsCarry.m64) (if x < y + b then 1 else 0))
theorem run_sub64_ {P : Program} (x y b : Nat) (hb : b ≤ 1) (w : World) :
  (F3 #[.int .u64 x, .int .u64 y, .int .u64 b]).run P w =
   .ok (.tuple #[.int .u64 (((x + 18446744073709551616 - y - b) % 18446744073709551616 : Nat) : Int), .int .u64 ((if x < y + b then 1 else 0 : Nat) : Int)]) w := by
 have : b = 0 ∨ b = 1 := by omega
 rcases this with rfl | rfl <;> rfl
def bits_Sub64.f (a0 a1 a2 : Int) : Option (Int × Int) := if 0 ≤ a0 ∧ 0 ≤ a1 ∧ a1 < 18446744073709551616 ∧ 0 ≤ a2 ∧ a2 ≤ 1 then (some ((a0 - a1 - a2) % 18446744073709551616, if a0 < a1 + a2 then 1 else 0)) else none
theorem bits_Sub64.run (a0 a1 a2 : Int) (r1 r2 : Int) (w : World) (h : bits_Sub64.f a0 a1 a2 = some (r1, r2)) :
  (callFunc 77 #[.int .u64 a0, .int .u64 a1, .int .u64 a2]).run Tryd.prog w = .ok (.value (.tuple #[.int .u64 r1, .int .u64 r2])) w := by
 unfold bits_Sub64.f at h
 by_cases hc : 0 ≤ a0 ∧ 0 ≤ a1 ∧ a1 < 18446744073709551616 ∧ 0 ≤ a2 ∧ a2 ≤ 1
 rotate_left
 ·
  rw [if_neg hc] at h; cases h

 rw [if_pos hc] at h; obtain ⟨h0, h1, h1', h2, h3⟩ := hc; simp only [Option.some.injEq, Prod.mk.injEq] at h; obtain ⟨rfl, rfl⟩ := h; obtain ⟨x, rfl⟩ := Int.eq_ofNat_of_zero_le h0; obtain ⟨y, rfl⟩ := Int.eq_ofNat_of_zero_le h1; obtain ⟨b, rfl⟩ := Int.eq_ofNat_of_zero_le h2; have e1 : (((x + 18446744073709551616 - y - b) % 18446744073709551616 : Nat) : Int) = ((x : Int) - y - b) % 18446744073709551616 := by omega
 have e2 : ((if x < y + b then 1 else 0 : Nat) : Int) = if (x : Int) < y + b then 1 else 0 := by split <;> split <;> omega
 rw [← e1, ← e2]; rw [run_callFunc_extern Tryd.func77 (by kernel_rfl) (by kernel_rfl) (by kernel_rfl) (e := F3) (by kernel_rfl), run_sub64_ x y b (by omega)]
 rfl
/-! ### xc: function 72 -/
def xc.f (a0_0 : Int) (a0_1 : Int) (a1_0 : Int) (a1_1 : Int) : Option (Int × Int × Bool) := (bits_Sub64.f a0_1 a1_1 0).bind fun bt199 => ((bits_Sub64.f a0_0 a1_0 bt199.2).bind fun bt201 => (some (bt201.1, bt199.1, (bt201.2 == 1))))
set_option maxHeartbeats 8000000 in
set_option maxRecDepth 100000 in
theorem xc.calls (a0_0 : Int) (a0_1 : Int) (a1_0 : Int) (a1_1 : Int) (r1 : Int) (r2 : Int) (r3 : Bool) (w : World) (h : xc.f a0_0 a0_1 a1_0 a1_1 = some (r1, r2, r3)) :
  Calls Tryd.prog 72 #[.agg #[.int .u64 a0_0, .int .u64 a0_1], .agg #[.int .u64 a1_0, .int .u64 a1_1]] w fun e w' => e = .returned (.tuple #[.agg #[.int .u64 r1, .int .u64 r2], .bool r3]) ∧ Below w.heap.size w w' := by
 have hu65 := Tryd.underlying65; have HB := aa.mk (Below.refl w.heap.size w); have H : ((bits_Sub64.f a0_1 a1_1 0).bind fun bt199 => ((bits_Sub64.f a0_0 a1_0 bt199.2).bind fun bt201 => (some (bt201.1, bt199.1, (bt201.2 == 1))))) = some (r1, r2, r3) := h; clear h; obtain ⟨⟨t199, t200⟩, A3, H⟩ := ob H; (try dsimp -simprocs only at H); obtain ⟨⟨t201, t202⟩, A4, H⟩ := ob H; (try dsimp -simprocs only at H); simp only [Option.some.injEq, Prod.mk.injEq] at H; obtain ⟨rfl, rfl, rfl⟩ := H; go_enter Tryd.func72, Tryd.ntmps72
 go_wp2_with (first | ((with_reducible refine bq (N := 2) rfl ?_); refine l5 (N := 2) (cs := #[.int .u64 a0_0, .int .u64 a0_1]) (t := 65) ?_; intro gb196 hg w5 hbox hb; refine ax4 (af bel hb) hbox ((ge hg : w.heap.size ≤ gb196)) ((ge hg : w.heap.size ≤ gb196)) ?_; clear HB; intro HB BK196 GW196 GE196; clear hb hbox hg) | ((with_reducible refine bq (N := 3) rfl ?_); refine l5 (N := 3) (cs := #[.int .u64 a1_0, .int .u64 a1_1]) (t := 65) ?_; intro gb197 hg w6 hbox hb; refine ax7 (bb BK196 hb) (af bes hb) hbox ((ge hg : w.heap.size ≤ gb197)) ((ge hg : w.heap.size ≤ gb197)) (nl hg BK196) (ng hg BK196) ?_; clear BK196; clear HB; intro BK196 HB BK197 GW197 GE197 NB196_197 NB197_196; clear hb hbox hg) | ((with_reducible refine bq (N := 4) rfl ?_); refine l5 (N := 4) (cs := #[.int .u64 0, .int .u64 0]) (t := 65) ?_; intro gb198 hg w7 hbox hb; refine ax10 (bb BK196 hb) (bb BK197 hb) (af bes hb) hbox ((ge hg : w.heap.size ≤ gb198)) ((ge hg : w.heap.size ≤ gb198)) (nl hg BK196) (ng hg BK196) (nl hg BK197) (ng hg BK197) ?_; clear BK196; clear BK197; clear HB; intro BK196 BK197 HB BK198 GW198 GE198 NB196_198 NB198_196 NB197_198 NB198_197; clear hb hbox hg; have hnb8 := NB196_197.out; have hnc8 := NB197_196.out; have hnb9 := NB196_198.out; have hnc9 := NB198_196.out; have ⟨_, _⟩ := cf BK196 0 rfl; have ⟨_, _⟩ := cf BK196 1 rfl; have hnb11 := NB197_198.out; have hnc11 := NB198_197.out; have ⟨_, _⟩ := cf BK197 0 rfl; have ⟨_, _⟩ := cf BK197 1 rfl) | ((with_reducible refine ag (f := 77) rfl ?_); refine goesX_ (some 14) rfl rfl rfl #[.int .u64 a0_1, .int .u64 a1_1, .int .u64 0] (by (try simp only [List.map_toArray, List.map_cons, List.map_nil]); first | done | rfl) _ (bits_Sub64.run a0_1 a1_1 0 t199 t200 _ A3.out) ?_) | ((with_reducible refine ag (f := 77) rfl ?_); refine goesX_ (some 23) rfl rfl rfl #[.int .u64 a0_0, .int .u64 a1_0, .int .u64 t200] (by (try simp only [List.map_toArray, List.map_cons, List.map_nil]); first | done | rfl) _ (bits_Sub64.run a0_0 a1_0 t200 t201 t202 _ A4.out) ?_; have ⟨_, _⟩ := cf BK198 0 rfl; have ⟨_, _⟩ := cf BK198 1 rfl))
 refine bodyPost_ret (ym rfl _ _ gb198 65 #[.int .u64 t201, .int .u64 t199] (0, 0) _ rfl (bp BK198) Tryd.underlying65 rfl (by kernel_rfl)) rfl ?_; exact ⟨er, bes⟩

end Go.Proofs.YtnjobojkoaknpaaDoor.F
