-- Written by a program of this seat's session (mkprint), out of the translation.
import Derived.Test.YtnjobojkoaknpaaDoorShort
import Derived.Test.YtnjobojkoaknpaaDoorFx0
import Derived.Test.YtnjobojkoaknpaaDoorFx2
import Derived.Test.YtnjobojkoaknpaaDoorFx4
import Derived.Test.YtnjobojkoaknpaaDoorFx5
namespace Go.Proofs.YtnjobojkoaknpaaDoor.F
open Go.RowKit Go.Proofs.YtnjobojkoaknpaaDoorW.PrintWords Go.Proofs.YtnjobojkoaknpaaDoorW.PrintLast Go.Proofs.YtnjobojkoaknpaaDoorW.PrintMore
attribute [local go_sem] uh uf vv vw qw qp tu ui   -- for this text's walks alone
set_option linter.unusedVariables false
set_option linter.unusedSimpArgs false

/-! ### bits_LeadingZeros64: function 79 -/
def bits_LeadingZeros64.f (k : Nat) (a0 : Int) : Option (Int) := (bits_Len64.f k a0).bind fun t256 => (some (wrap64 (64 - t256)))
theorem bits_LeadingZeros64.mono : ∀ a0 k, LeO (bits_LeadingZeros64.f k a0) (bits_LeadingZeros64.f (k + 1) a0) := by
 intro a0 k
 unfold bits_LeadingZeros64.f
 repeat' with_reducible first | apply bits_Len64.mono | exact LeO.refl _ | exact LeO.none _ | refine LeO.ite ?_ ?_ | refine LeO.bind ?_ (fun _ => ?_)
set_option maxHeartbeats 8000000 in
set_option maxRecDepth 100000 in
theorem bits_LeadingZeros64.calls (k : Nat) (a0 : Int) (r : Int) (w : World) (h : bits_LeadingZeros64.f k a0 = some r) :
  Calls Tryd.prog 79 #[.int .u64 a0] w fun e w' => e = .returned (.int .i64 r) ∧ dh w w' := by
 have H : ((bits_Len64.f k a0).bind fun t256 => (some (wrap64 (64 - t256)))) = some r := h; clear h; obtain ⟨t256, A2, H⟩ := ob H; (try dsimp -simprocs only at H); obtain rfl := Option.some.inj H; go_enter Tryd.func79, Tryd.ntmps79
 go_wp2_with (first | ((with_reducible refine ag (f := 69) rfl ?_); refine df (some 4) rfl rfl Tryd.func69 (by kernel_rfl) rfl #[.int .u64 a0] rfl ga ?_; (with_reducible refine (bits_Len64.calls k a0 t256 _ A2.out).mono ?_); rintro e w' ⟨rfl, ⟨nd, rfl⟩⟩; refine ⟨_, rfl, ?_⟩))
 go_ret; exact ⟨by first | rfl | (simp; done) | (simp [*]; done), by repeat (first | exact dh.refl _ | apply dh.step)⟩

/-! ### bz: function 78 -/
mutual
def bz.j2 : Nat → Int → Int → Int → Int → Int → Int → Int → Int → Option (Int × Int)
 | 0, _, _, _, _, _, _, _, _ => none
 | k + 1, x2, x8, x9, x10, x11, x13, x14, x15 => if x9 = 0 then (none) else (bz.l1 k x2 x8 x9 x10 x14 x15 (IntKind.u64.wrap ((IntKind.u64.wrap ((IntKind.u64.wrap ((IntKind.u64.wrap (x11 * 4294967296)) + x13)) - (IntKind.u64.wrap (x15 * x2)))) - (IntKind.u64.wrap ((IntKind.u64.wrap (Int.tdiv (IntKind.u64.wrap ((IntKind.u64.wrap ((IntKind.u64.wrap (x11 * 4294967296)) + x13)) - (IntKind.u64.wrap (x15 * x2)))) x9)) * x9)))) (IntKind.u64.wrap ((IntKind.u64.wrap ((IntKind.u64.wrap (x11 * 4294967296)) + x13)) - (IntKind.u64.wrap (x15 * x2)))) (IntKind.u64.wrap (Int.tdiv (IntKind.u64.wrap ((IntKind.u64.wrap ((IntKind.u64.wrap (x11 * 4294967296)) + x13)) - (IntKind.u64.wrap (x15 * x2)))) x9)))
def bz.l1 : Nat → Int → Int → Int → Int → Int → Int → Int → Int → Int → Option (Int × Int)
 | 0, _, _, _, _, _, _, _, _, _ => none
 | k + 1, x2, x8, x9, x10, x14, x15, x16, x17, x18 => if x18 ≥ 4294967296 then (bz.j4 k x2 x8 x9 x10 x14 x15 x16 x17 x18 true) else (bz.j4 k x2 x8 x9 x10 x14 x15 x16 x17 x18 (decide ((IntKind.u64.wrap (x18 * x10)) > (IntKind.u64.wrap ((IntKind.u64.wrap (4294967296 * x16)) + x14)))))
def bz.j4 : Nat → Int → Int → Int → Int → Int → Int → Int → Int → Int → Bool → Option (Int × Int)
 | 0, _, _, _, _, _, _, _, _, _, _ => none
 | k + 1, x2, x8, x9, x10, x14, x15, x16, x17, x18, x113 => if x113 = true then (if (IntKind.u64.wrap (x16 + x9)) ≥ 4294967296 then (if 0 ≤ x8 then (some (IntKind.u64.wrap ((IntKind.u64.wrap (x15 * 4294967296)) + (IntKind.u64.wrap (x18 - 1))), shr .u64 (IntKind.u64.wrap ((IntKind.u64.wrap ((IntKind.u64.wrap (x17 * 4294967296)) + x14)) - (IntKind.u64.wrap ((IntKind.u64.wrap (x18 - 1)) * x2)))) x8)) else (none)) else (bz.l1 k x2 x8 x9 x10 x14 x15 (IntKind.u64.wrap (x16 + x9)) x17 (IntKind.u64.wrap (x18 - 1)))) else (if 0 ≤ x8 then (some (IntKind.u64.wrap ((IntKind.u64.wrap (x15 * 4294967296)) + x18), shr .u64 (IntKind.u64.wrap ((IntKind.u64.wrap ((IntKind.u64.wrap (x17 * 4294967296)) + x14)) - (IntKind.u64.wrap (x18 * x2)))) x8)) else (none))
def bz.l0 : Nat → Int → Int → Int → Int → Int → Int → Int → Int → Int → Option (Int × Int)
 | 0, _, _, _, _, _, _, _, _, _ => none
 | k + 1, x2, x8, x9, x10, x11, x13, x14, x15, x16 => if x15 ≥ 4294967296 then (bz.j1 k x2 x8 x9 x10 x11 x13 x14 x15 x16 true) else (bz.j1 k x2 x8 x9 x10 x11 x13 x14 x15 x16 (decide ((IntKind.u64.wrap (x15 * x10)) > (IntKind.u64.wrap ((IntKind.u64.wrap (4294967296 * x16)) + x13)))))
def bz.j1 : Nat → Int → Int → Int → Int → Int → Int → Int → Int → Int → Bool → Option (Int × Int)
 | 0, _, _, _, _, _, _, _, _, _, _ => none
 | k + 1, x2, x8, x9, x10, x11, x13, x14, x15, x16, x78 => if x78 = true then (if (IntKind.u64.wrap (x16 + x9)) ≥ 4294967296 then (bz.j2 k x2 x8 x9 x10 x11 x13 x14 (IntKind.u64.wrap (x15 - 1))) else (bz.l0 k x2 x8 x9 x10 x11 x13 x14 (IntKind.u64.wrap (x15 - 1)) (IntKind.u64.wrap (x16 + x9)))) else (bz.j2 k x2 x8 x9 x10 x11 x13 x14 x15)
end
def bz.f (k : Nat) (a0 : Int) (a1 : Int) (a2 : Int) : Option (Int × Int) := if a2 = 0 then (none) else (if a2 ≤ a0 then (none) else (if a0 = 0 then (some (IntKind.u64.wrap (Int.tdiv a1 a2), Int.tmod a1 a2)) else ((bits_LeadingZeros64.f k a2).bind fun t257 => (if 0 ≤ (IntKind.u64.wrap (t257)) then (if 0 ≤ (IntKind.u64.wrap (64 - (IntKind.u64.wrap (t257)))) then (if ((shl .u64 a2 (IntKind.u64.wrap (t257))) / 4294967296) = 0 then (none) else (bz.l0 k (shl .u64 a2 (IntKind.u64.wrap (t257))) (IntKind.u64.wrap (t257)) ((shl .u64 a2 (IntKind.u64.wrap (t257))) / 4294967296) (Go.bits .and .u64 (shl .u64 a2 (IntKind.u64.wrap (t257))) 4294967295) (Go.bits .or .u64 (shl .u64 a0 (IntKind.u64.wrap (t257))) (shr .u64 a1 (IntKind.u64.wrap (64 - (IntKind.u64.wrap (t257)))))) ((shl .u64 a1 (IntKind.u64.wrap (t257))) / 4294967296) (Go.bits .and .u64 (shl .u64 a1 (IntKind.u64.wrap (t257))) 4294967295) (IntKind.u64.wrap (Int.tdiv (Go.bits .or .u64 (shl .u64 a0 (IntKind.u64.wrap (t257))) (shr .u64 a1 (IntKind.u64.wrap (64 - (IntKind.u64.wrap (t257)))))) ((shl .u64 a2 (IntKind.u64.wrap (t257))) / 4294967296))) (IntKind.u64.wrap ((Go.bits .or .u64 (shl .u64 a0 (IntKind.u64.wrap (t257))) (shr .u64 a1 (IntKind.u64.wrap (64 - (IntKind.u64.wrap (t257)))))) - (IntKind.u64.wrap ((IntKind.u64.wrap (Int.tdiv (Go.bits .or .u64 (shl .u64 a0 (IntKind.u64.wrap (t257))) (shr .u64 a1 (IntKind.u64.wrap (64 - (IntKind.u64.wrap (t257)))))) ((shl .u64 a2 (IntKind.u64.wrap (t257))) / 4294967296))) * ((shl .u64 a2 (IntKind.u64.wrap (t257))) / 4294967296))))))) else (none)) else (none)))))
theorem bz.jm : ∀ k, (∀ y0 y1 y2 y3 y4 y5 y6 y7, LeO (bz.j2 k y0 y1 y2 y3 y4 y5 y6 y7) (bz.j2 (k + 1) y0 y1 y2 y3 y4 y5 y6 y7)) ∧ (∀ y0 y1 y2 y3 y4 y5 y6 y7 y8, LeO (bz.l1 k y0 y1 y2 y3 y4 y5 y6 y7 y8) (bz.l1 (k + 1) y0 y1 y2 y3 y4 y5 y6 y7 y8)) ∧ (∀ y0 y1 y2 y3 y4 y5 y6 y7 y8 y9, LeO (bz.j4 k y0 y1 y2 y3 y4 y5 y6 y7 y8 y9) (bz.j4 (k + 1) y0 y1 y2 y3 y4 y5 y6 y7 y8 y9)) ∧ (∀ y0 y1 y2 y3 y4 y5 y6 y7 y8, LeO (bz.l0 k y0 y1 y2 y3 y4 y5 y6 y7 y8) (bz.l0 (k + 1) y0 y1 y2 y3 y4 y5 y6 y7 y8)) ∧ (∀ y0 y1 y2 y3 y4 y5 y6 y7 y8 y9, LeO (bz.j1 k y0 y1 y2 y3 y4 y5 y6 y7 y8 y9) (bz.j1 (k + 1) y0 y1 y2 y3 y4 y5 y6 y7 y8 y9))
 | 0 => ⟨fun _ _ _ _ _ _ _ _ r h => by simp [bz.j2] at h, fun _ _ _ _ _ _ _ _ _ r h => by simp [bz.l1] at h, fun _ _ _ _ _ _ _ _ _ _ r h => by simp [bz.j4] at h, fun _ _ _ _ _ _ _ _ _ r h => by simp [bz.l0] at h, fun _ _ _ _ _ _ _ _ _ _ r h => by simp [bz.j1] at h⟩
 | k + 1 => by
  obtain ⟨ih0, ih1, ih2, ih3, ih4⟩ := bz.jm k
  refine ⟨?_, ?_, ?_, ?_, ?_⟩ <;> intros <;> (first | unfold bz.j2 | unfold bz.l1 | unfold bz.j4 | unfold bz.l0 | unfold bz.j1) <;>
   repeat' with_reducible first | apply ih0 | apply ih1 | apply ih2 | apply ih3 | apply ih4 | apply bits_LeadingZeros64.mono | exact LeO.refl _ | exact LeO.none _ | refine LeO.ite ?_ ?_ | refine LeO.bind ?_ (fun _ => ?_)
theorem bz.mono : ∀ a0 a1 a2 k, LeO (bz.f k a0 a1 a2) (bz.f (k + 1) a0 a1 a2) := by
 intro a0 a1 a2 k; obtain ⟨ih0, ih1, ih2, ih3, ih4⟩ := bz.jm k
 unfold bz.f
 repeat' with_reducible first | apply ih0 | apply ih1 | apply ih2 | apply ih3 | apply ih4 | apply bits_LeadingZeros64.mono | exact LeO.refl _ | exact LeO.none _ | refine LeO.ite ?_ ?_ | refine LeO.bind ?_ (fun _ => ?_)
set_option maxHeartbeats 8000000 in
set_option maxRecDepth 100000 in
theorem bz.calls (k : Nat) (a0 : Int) (a1 : Int) (a2 : Int) (r1 : Int) (r2 : Int) (w : World) (h : bz.f k a0 a1 a2 = some (r1, r2)) :
  Calls Tryd.prog 78 #[.int .u64 a0, .int .u64 a1, .int .u64 a2] w fun e w' => e = .returned (.tuple #[.int .u64 r1, .int .u64 r2]) ∧ dh w w' := by
 have H : (if a2 = 0 then (none) else (if a2 ≤ a0 then (none) else (if a0 = 0 then (some (IntKind.u64.wrap (Int.tdiv a1 a2), Int.tmod a1 a2)) else ((bits_LeadingZeros64.f k a2).bind fun t257 => (if 0 ≤ (IntKind.u64.wrap (t257)) then (if 0 ≤ (IntKind.u64.wrap (64 - (IntKind.u64.wrap (t257)))) then (if ((shl .u64 a2 (IntKind.u64.wrap (t257))) / 4294967296) = 0 then (none) else (bz.l0 k (shl .u64 a2 (IntKind.u64.wrap (t257))) (IntKind.u64.wrap (t257)) ((shl .u64 a2 (IntKind.u64.wrap (t257))) / 4294967296) (Go.bits .and .u64 (shl .u64 a2 (IntKind.u64.wrap (t257))) 4294967295) (Go.bits .or .u64 (shl .u64 a0 (IntKind.u64.wrap (t257))) (shr .u64 a1 (IntKind.u64.wrap (64 - (IntKind.u64.wrap (t257)))))) ((shl .u64 a1 (IntKind.u64.wrap (t257))) / 4294967296) (Go.bits .and .u64 (shl .u64 a1 (IntKind.u64.wrap (t257))) 4294967295) (IntKind.u64.wrap (Int.tdiv (Go.bits .or .u64 (shl .u64 a0 (IntKind.u64.wrap (t257))) (shr .u64 a1 (IntKind.u64.wrap (64 - (IntKind.u64.wrap (t257)))))) ((shl .u64 a2 (IntKind.u64.wrap (t257))) / 4294967296))) (IntKind.u64.wrap ((Go.bits .or .u64 (shl .u64 a0 (IntKind.u64.wrap (t257))) (shr .u64 a1 (IntKind.u64.wrap (64 - (IntKind.u64.wrap (t257)))))) - (IntKind.u64.wrap ((IntKind.u64.wrap (Int.tdiv (Go.bits .or .u64 (shl .u64 a0 (IntKind.u64.wrap (t257))) (shr .u64 a1 (IntKind.u64.wrap (64 - (IntKind.u64.wrap (t257)))))) ((shl .u64 a2 (IntKind.u64.wrap (t257))) / 4294967296))) * ((shl .u64 a2 (IntKind.u64.wrap (t257))) / 4294967296))))))) else (none)) else (none)))))) = some (r1, r2) := h; clear h
 by_cases c4 : a2 = 0
 ·
  rw [if_pos c4] at H; exact absurd H (by simp)
 ·
  rw [if_neg c4] at H; have c4b0 := beq_eq_false_iff_ne.mpr c4; have c4b1 := bne_iff_ne.mpr c4
  by_cases c5 : a2 ≤ a0
  ·
   rw [if_pos c5] at H; exact absurd H (by simp)
  ·
   rw [if_neg c5] at H; have c5b0 := decide_eq_false c5; clear c5
   by_cases c6 : a0 = 0
   ·
    rw [if_pos c6] at H; have c6b0 := beq_iff_eq.mpr c6; have c6b1 := bne_eq_false_iff_eq.mpr c6; clear c6; simp only [Option.some.injEq, Prod.mk.injEq] at H; obtain ⟨rfl, rfl⟩ := H; go_enter Tryd.func78, Tryd.ntmps78; go_wp2
    repeat (go_quiet (fail); try go_wp2)
    go_ret2
    exact ⟨by first | rfl | (simp; done) | (simp [*]; done), by repeat (first | exact dh.refl _ | apply dh.step)⟩
   ·
    rw [if_neg c6] at H; have c6b0 := beq_eq_false_iff_ne.mpr c6; have c6b1 := bne_iff_ne.mpr c6; obtain ⟨t257, A7, H⟩ := ob H; (try dsimp -simprocs only at H); obtain ⟨ji8, hji8⟩ : ∃ j_ : Int, (IntKind.u64.wrap (t257)) = j_ := ⟨_, rfl⟩; replace H : (if 0 ≤ (ji8) then (if 0 ≤ (IntKind.u64.wrap (64 - (ji8))) then (if ((shl .u64 a2 (ji8)) / 4294967296) = 0 then (none) else (bz.l0 k (shl .u64 a2 (ji8)) ji8 ((shl .u64 a2 (ji8)) / 4294967296) (Go.bits .and .u64 (shl .u64 a2 (ji8)) 4294967295) (Go.bits .or .u64 (shl .u64 a0 (ji8)) (shr .u64 a1 (IntKind.u64.wrap (64 - (ji8))))) ((shl .u64 a1 (ji8)) / 4294967296) (Go.bits .and .u64 (shl .u64 a1 (ji8)) 4294967295) (IntKind.u64.wrap (Int.tdiv (Go.bits .or .u64 (shl .u64 a0 (ji8)) (shr .u64 a1 (IntKind.u64.wrap (64 - (ji8))))) ((shl .u64 a2 (ji8)) / 4294967296))) (IntKind.u64.wrap ((Go.bits .or .u64 (shl .u64 a0 (ji8)) (shr .u64 a1 (IntKind.u64.wrap (64 - (ji8))))) - (IntKind.u64.wrap ((IntKind.u64.wrap (Int.tdiv (Go.bits .or .u64 (shl .u64 a0 (ji8)) (shr .u64 a1 (IntKind.u64.wrap (64 - (ji8))))) ((shl .u64 a2 (ji8)) / 4294967296))) * ((shl .u64 a2 (ji8)) / 4294967296))))))) else (none)) else (none)) = some (r1, r2) := by first | (rw [hji8] at H; exact H) | (simp only [hji8] at H ⊢; exact H)
    (try rw [hji8] at A7)
    by_cases c9 : 0 ≤ (ji8)
    rotate_left
    ·
     rw [if_neg c9] at H; exact absurd H (by simp)

    rw [if_pos c9] at H; have c9b0 := eq_true c9; have c9b1 := decide_eq_true c9; clear c9; obtain ⟨ji10, hji10⟩ : ∃ j_ : Int, (shl .u64 a2 (ji8)) = j_ := ⟨_, rfl⟩; replace H : (if 0 ≤ (IntKind.u64.wrap (64 - (ji8))) then (if ((ji10) / 4294967296) = 0 then (none) else (bz.l0 k ji10 ji8 ((ji10) / 4294967296) (Go.bits .and .u64 (ji10) 4294967295) (Go.bits .or .u64 (shl .u64 a0 (ji8)) (shr .u64 a1 (IntKind.u64.wrap (64 - (ji8))))) ((shl .u64 a1 (ji8)) / 4294967296) (Go.bits .and .u64 (shl .u64 a1 (ji8)) 4294967295) (IntKind.u64.wrap (Int.tdiv (Go.bits .or .u64 (shl .u64 a0 (ji8)) (shr .u64 a1 (IntKind.u64.wrap (64 - (ji8))))) ((ji10) / 4294967296))) (IntKind.u64.wrap ((Go.bits .or .u64 (shl .u64 a0 (ji8)) (shr .u64 a1 (IntKind.u64.wrap (64 - (ji8))))) - (IntKind.u64.wrap ((IntKind.u64.wrap (Int.tdiv (Go.bits .or .u64 (shl .u64 a0 (ji8)) (shr .u64 a1 (IntKind.u64.wrap (64 - (ji8))))) ((ji10) / 4294967296))) * ((ji10) / 4294967296))))))) else (none)) = some (r1, r2) := by first | (rw [hji10] at H; exact H) | (simp only [hji10] at H ⊢; exact H)
    (try rw [hji10] at A7); have hji10_ : (IntKind.u64.wrap (a2 * 2 ^ min (ji8).toNat 64)) = ji10 := hji10; have hji10z : (ji8) ≤ 64 → (IntKind.u64.wrap (a2 * 2 ^ (ji8).toNat)) = ji10 := xn hji10; have c11b0 := eq_true (of_decide_eq_true (by first | (with_reducible assumption) | assumption) : 0 ≤ (ji8)); obtain ⟨ji12, hji12⟩ : ∃ j_ : Int, (shl .u64 a0 (ji8)) = j_ := ⟨_, rfl⟩; replace H : (if 0 ≤ (IntKind.u64.wrap (64 - (ji8))) then (if ((ji10) / 4294967296) = 0 then (none) else (bz.l0 k ji10 ji8 ((ji10) / 4294967296) (Go.bits .and .u64 (ji10) 4294967295) (Go.bits .or .u64 (ji12) (shr .u64 a1 (IntKind.u64.wrap (64 - (ji8))))) ((shl .u64 a1 (ji8)) / 4294967296) (Go.bits .and .u64 (shl .u64 a1 (ji8)) 4294967295) (IntKind.u64.wrap (Int.tdiv (Go.bits .or .u64 (ji12) (shr .u64 a1 (IntKind.u64.wrap (64 - (ji8))))) ((ji10) / 4294967296))) (IntKind.u64.wrap ((Go.bits .or .u64 (ji12) (shr .u64 a1 (IntKind.u64.wrap (64 - (ji8))))) - (IntKind.u64.wrap ((IntKind.u64.wrap (Int.tdiv (Go.bits .or .u64 (ji12) (shr .u64 a1 (IntKind.u64.wrap (64 - (ji8))))) ((ji10) / 4294967296))) * ((ji10) / 4294967296))))))) else (none)) = some (r1, r2) := by first | (rw [hji12] at H; exact H) | (simp only [hji12] at H ⊢; exact H)
    (try rw [hji12] at A7); have hji12_ : (IntKind.u64.wrap (a0 * 2 ^ min (ji8).toNat 64)) = ji12 := hji12; have hji12z : (ji8) ≤ 64 → (IntKind.u64.wrap (a0 * 2 ^ (ji8).toNat)) = ji12 := xn hji12; obtain ⟨ji13, hji13⟩ : ∃ j_ : Int, (IntKind.u64.wrap (64 - (ji8))) = j_ := ⟨_, rfl⟩; replace H : (if 0 ≤ (ji13) then (if ((ji10) / 4294967296) = 0 then (none) else (bz.l0 k ji10 ji8 ((ji10) / 4294967296) (Go.bits .and .u64 (ji10) 4294967295) (Go.bits .or .u64 (ji12) (shr .u64 a1 (ji13))) ((shl .u64 a1 (ji8)) / 4294967296) (Go.bits .and .u64 (shl .u64 a1 (ji8)) 4294967295) (IntKind.u64.wrap (Int.tdiv (Go.bits .or .u64 (ji12) (shr .u64 a1 (ji13))) ((ji10) / 4294967296))) (IntKind.u64.wrap ((Go.bits .or .u64 (ji12) (shr .u64 a1 (ji13))) - (IntKind.u64.wrap ((IntKind.u64.wrap (Int.tdiv (Go.bits .or .u64 (ji12) (shr .u64 a1 (ji13))) ((ji10) / 4294967296))) * ((ji10) / 4294967296))))))) else (none)) = some (r1, r2) := by first | (rw [hji13] at H; exact H) | (simp only [hji13] at H ⊢; exact H)
    (try rw [hji13] at A7)
    by_cases c14 : 0 ≤ (ji13)
    rotate_left
    ·
     rw [if_neg c14] at H; exact absurd H (by simp)
    rw [if_pos c14] at H; have c14b0 := eq_true c14; have c14b1 := decide_eq_true c14; clear c14; obtain ⟨ji15, hji15⟩ : ∃ j_ : Int, (shr .u64 a1 (ji13)) = j_ := ⟨_, rfl⟩; replace H : (if ((ji10) / 4294967296) = 0 then (none) else (bz.l0 k ji10 ji8 ((ji10) / 4294967296) (Go.bits .and .u64 (ji10) 4294967295) (Go.bits .or .u64 (ji12) (ji15)) ((shl .u64 a1 (ji8)) / 4294967296) (Go.bits .and .u64 (shl .u64 a1 (ji8)) 4294967295) (IntKind.u64.wrap (Int.tdiv (Go.bits .or .u64 (ji12) (ji15)) ((ji10) / 4294967296))) (IntKind.u64.wrap ((Go.bits .or .u64 (ji12) (ji15)) - (IntKind.u64.wrap ((IntKind.u64.wrap (Int.tdiv (Go.bits .or .u64 (ji12) (ji15)) ((ji10) / 4294967296))) * ((ji10) / 4294967296))))))) = some (r1, r2) := by first | (rw [hji15] at H; exact H) | (simp only [hji15] at H ⊢; exact H)
    (try rw [hji15] at A7); have hji15_ : (a1 / 2 ^ min (ji13).toNat 64) = ji15 := hji15; have hji15z : (ji13) ≤ 64 → (a1 / 2 ^ (ji13).toNat) = ji15 := yx hji15; have c16b0 := eq_true (of_decide_eq_true (by first | (with_reducible assumption) | assumption) : 0 ≤ (ji8)); obtain ⟨ji17, hji17⟩ : ∃ j_ : Int, (shl .u64 a1 (ji8)) = j_ := ⟨_, rfl⟩; replace H : (if ((ji10) / 4294967296) = 0 then (none) else (bz.l0 k ji10 ji8 ((ji10) / 4294967296) (Go.bits .and .u64 (ji10) 4294967295) (Go.bits .or .u64 (ji12) (ji15)) ((ji17) / 4294967296) (Go.bits .and .u64 (ji17) 4294967295) (IntKind.u64.wrap (Int.tdiv (Go.bits .or .u64 (ji12) (ji15)) ((ji10) / 4294967296))) (IntKind.u64.wrap ((Go.bits .or .u64 (ji12) (ji15)) - (IntKind.u64.wrap ((IntKind.u64.wrap (Int.tdiv (Go.bits .or .u64 (ji12) (ji15)) ((ji10) / 4294967296))) * ((ji10) / 4294967296))))))) = some (r1, r2) := by first | (rw [hji17] at H; exact H) | (simp only [hji17] at H ⊢; exact H)
    (try rw [hji17] at A7); have hji17_ : (IntKind.u64.wrap (a1 * 2 ^ min (ji8).toNat 64)) = ji17 := hji17; have hji17z : (ji8) ≤ 64 → (IntKind.u64.wrap (a1 * 2 ^ (ji8).toNat)) = ji17 := xn hji17
    by_cases c18 : ((ji10) / 4294967296) = 0
    ·
     rw [if_pos c18] at H; exact absurd H (by simp)
    ·
     rw [if_neg c18] at H; have c18b0 := beq_eq_false_iff_ne.mpr c18; have c18b1 := bne_iff_ne.mpr c18; have HC19 := aa.mk H; clear H; go_enter Tryd.func78, Tryd.ntmps78
     go_upto_block 0 with (first | (go_at_call 79; (with_reducible refine (bits_LeadingZeros64.calls k a2 t257 _ A7.out).mono ?_); rintro e w' ⟨rfl, ⟨nd, rfl⟩⟩; (try first | exact dn1 | exact dn2)))
     repeat (go_quiet (first | (go_at_call 79; (with_reducible refine (bits_LeadingZeros64.calls k a2 t257 _ A7.out).mono ?_); rintro e w' ⟨rfl, ⟨nd, rfl⟩⟩; (try first | exact dn1 | exact dn2))); go_upto_block 0 with (first | (go_at_call 79; (with_reducible refine (bits_LeadingZeros64.calls k a2 t257 _ A7.out).mono ?_); rintro e w' ⟨rfl, ⟨nd, rfl⟩⟩; (try first | exact dn1 | exact dn2))))
     (try simp only [Act.put, sa0, sa1, sa2])
     go_cut [15] (fun v15 wc => ∃ (kq : Nat) (x15_18 : Int), v15 = .int .u64 x15_18 ∧ aa (bz.j2 kq ji10 ji8 ((ji10) / 4294967296) (Go.bits .and .u64 (ji10) 4294967295) (Go.bits .or .u64 (ji12) (ji15)) ((ji17) / 4294967296) (Go.bits .and .u64 (ji17) 4294967295) x15_18 = some (r1, r2)) ∧ aa (kq ≤ k) ∧ dh w wc)
     case first =>
      have H := HC19.out; clear HC19; have H' := aa.mk H; clear H; go_wp2
      repeat (go_quiet (fail); try go_wp2)
      go_loopg [15, 16] k (fun kq v15 v16 w' => ∃ (x15_1 : Int) (x16_1 : Int), v15 = .int .u64 x15_1 ∧ v16 = .int .u64 x16_1 ∧ aa (bz.l0 kq ji10 ji8 ((ji10) / 4294967296) (Go.bits .and .u64 (ji10) 4294967295) (Go.bits .or .u64 (ji12) (ji15)) ((ji17) / 4294967296) (Go.bits .and .u64 (ji17) 4294967295) x15_1 x16_1 = some (r1, r2)) ∧ aa (kq ≤ k) ∧ dh w w')
      case atStart => exact ⟨(IntKind.u64.wrap (Int.tdiv (Go.bits .or .u64 (ji12) (ji15)) ((ji10) / 4294967296))), (IntKind.u64.wrap ((Go.bits .or .u64 (ji12) (ji15)) - (IntKind.u64.wrap ((IntKind.u64.wrap (Int.tdiv (Go.bits .or .u64 (ji12) (ji15)) ((ji10) / 4294967296))) * ((ji10) / 4294967296))))), (by first | rfl | (simp; done) | (simp only [← hji10, ← hji12, ← hji15] <;> (first | rfl | simp)) | (simp [*]; done)), (by first | rfl | (simp; done) | (simp only [← hji10, ← hji12, ← hji15] <;> (first | rfl | simp)) | (simp [*]; done)), H', ⟨Nat.le_refl _⟩, by repeat (first | exact dh.refl _ | apply dh.step)⟩
      case round =>
       clear H'
       obtain ⟨x15_1, x16_1, rfl, rfl, HA, HK1, ⟨m1, rfl⟩⟩ := hrel; cases gk with
       | zero => exact absurd HA.out (by simp [bz.l0])
       | succ k1 =>
        have H := HA.out; clear HA; simp only [bz.l0] at H; have HC20 := aa.mk H; clear H
        go_upto_region 17 with (fail)
        repeat (go_quiet (fail); go_upto_region 17 with (fail))
        go_cut [78] (fun v78 wc => ∃ (kq : Nat) (x78_19 : Bool), v78 = .bool x78_19 ∧ aa (bz.j1 kq ji10 ji8 ((ji10) / 4294967296) (Go.bits .and .u64 (ji10) 4294967295) (Go.bits .or .u64 (ji12) (ji15)) ((ji17) / 4294967296) (Go.bits .and .u64 (ji17) 4294967295) x15_1 x16_1 x78_19 = some (r1, r2)) ∧ aa (kq ≤ k1) ∧ dh w wc)
        case first =>
         have H := HC20.out; clear HC20
         by_cases c21 : x15_1 ≥ 4294967296
         rotate_left
         ·
          rw [if_neg c21] at H; have c21b0 : decide (4294967296 ≤ x15_1) = false := decide_eq_false c21; clear c21
          (first | rw [c21b0] | (simp only [jw, l8]; rw [c21b0]) | skip)
          have H' := aa.mk H; clear H; go_wp2
          repeat (go_quiet (fail); try go_wp2)
          go_meet
          case rel => exact ⟨_, (decide ((IntKind.u64.wrap (x15_1 * (Go.bits .and .u64 (ji10) 4294967295))) > (IntKind.u64.wrap ((IntKind.u64.wrap (4294967296 * x16_1)) + ((ji17) / 4294967296))))), (by first | rfl | (simp; done) | (simp only [← hji10, ← hji17] <;> (first | rfl | simp)) | (simp [*]; done)), H', ⟨by have := HK1.out; first | omega | exact Nat.le_refl _⟩, by repeat (first | exact dh.refl _ | apply dh.step)⟩
         rw [if_pos c21] at H; have c21b0 : decide (4294967296 ≤ x15_1) = true := decide_eq_true c21; clear c21
         (first | rw [c21b0] | (simp only [jw, l8]; rw [c21b0]) | skip)
         have H' := aa.mk H; clear H; go_wp2
         repeat (go_quiet (fail); try go_wp2)
         go_meet
         case rel => exact ⟨_, (true), (by first | rfl | (simp; done) | (simp [*]; done)), H', ⟨by have := HK1.out; first | omega | exact Nat.le_refl _⟩, by repeat (first | exact dh.refl _ | apply dh.step)⟩
        case rest =>
         clear HC20
         obtain ⟨kq, x78_19, rfl, HA, HJ19, ⟨mc19, rfl⟩⟩ := hcut; cases kq with
         | zero => exact absurd HA.out (by simp [bz.j1])
         | succ kj19 =>
          have H := HA.out; clear HA; simp only [bz.j1] at H
          by_cases c22 : x78_19 = true
          rotate_left
          ·
           replace c22 := Bool.eq_false_iff.mpr c22; subst c22; rw [if_neg (show ¬ (false = true) by decide)] at H; have H' := aa.mk H; clear H; go_wp2
           repeat (go_quiet (fail); try go_wp2)
           go_meet
           case rel => exact ⟨_, (x15_1), (by first | rfl | (simp; done) | (simp [*]; done)), H', ⟨by have := HK1.out; have := HJ19.out; first | omega | exact Nat.le_refl _⟩, by repeat (first | exact dh.refl _ | apply dh.step)⟩
          subst c22; rw [if_pos rfl] at H
          by_cases c23 : (IntKind.u64.wrap (x16_1 + ((ji10) / 4294967296))) ≥ 4294967296
          ·
           rw [if_pos c23] at H; have c23b0 : decide (4294967296 ≤ (IntKind.u64.wrap (x16_1 + ((ji10) / 4294967296)))) = true := decide_eq_true c23; clear c23; have H' := aa.mk H; clear H; go_wp2
           repeat (go_quiet (fail); try go_wp2)
           go_meet
           case rel => exact ⟨_, (IntKind.u64.wrap (x15_1 - 1)), (by first | rfl | (simp; done) | (simp [*]; done)), H', ⟨by have := HK1.out; have := HJ19.out; first | omega | exact Nat.le_refl _⟩, by repeat (first | exact dh.refl _ | apply dh.step)⟩
          ·
           rw [if_neg c23] at H; have c23b0 : decide (4294967296 ≤ (IntKind.u64.wrap (x16_1 + ((ji10) / 4294967296)))) = false := decide_eq_false c23; clear c23; have H' := aa.mk H; clear H; go_wp2
           repeat (go_quiet (fail); try go_wp2)
           go_roundg kj19
           case measure => have := HK1.out; have := HJ19.out; omega
           case rel => exact ⟨(IntKind.u64.wrap (x15_1 - 1)), (IntKind.u64.wrap (x16_1 + ((ji10) / 4294967296))), (by first | rfl | (simp; done) | (simp [*]; done)), (by first | rfl | (simp; done) | (simp only [← hji10] <;> (first | rfl | simp)) | (simp [*]; done)), H', ⟨by have := HK1.out; have := HJ19.out; omega⟩, by repeat (first | exact dh.refl _ | apply dh.step)⟩
     case rest =>
      clear HC19
      obtain ⟨kq, x15_18, rfl, HA, HJ18, ⟨mc18, rfl⟩⟩ := hcut; cases kq with
      | zero => exact absurd HA.out (by simp [bz.j2])
      | succ kj18 =>
       have H := HA.out; clear HA; simp only [bz.j2] at H
       by_cases c24 : ((ji10) / 4294967296) = 0
       ·
        rw [if_pos c24] at H; exact absurd H (by simp)
       ·
        rw [if_neg c24] at H; have c24b0 := beq_eq_false_iff_ne.mpr c24; have c24b1 := bne_iff_ne.mpr c24; have H' := aa.mk H; clear H; go_wp2
        repeat (go_quiet (fail); try go_wp2)
        go_loopg [16, 18] kj18 (fun kq v16 v18 w' => ∃ (x16_2 : Int) (x18_2 : Int), v16 = .int .u64 x16_2 ∧ v18 = .int .u64 x18_2 ∧ aa (bz.l1 kq ji10 ji8 ((ji10) / 4294967296) (Go.bits .and .u64 (ji10) 4294967295) (Go.bits .and .u64 (ji17) 4294967295) x15_18 x16_2 (IntKind.u64.wrap ((IntKind.u64.wrap ((IntKind.u64.wrap ((Go.bits .or .u64 (ji12) (ji15)) * 4294967296)) + ((ji17) / 4294967296))) - (IntKind.u64.wrap (x15_18 * ji10)))) x18_2 = some (r1, r2)) ∧ aa (kq ≤ kj18) ∧ dh w w')
        case atStart => exact ⟨(IntKind.u64.wrap ((IntKind.u64.wrap ((IntKind.u64.wrap ((IntKind.u64.wrap ((Go.bits .or .u64 (ji12) (ji15)) * 4294967296)) + ((ji17) / 4294967296))) - (IntKind.u64.wrap (x15_18 * ji10)))) - (IntKind.u64.wrap ((IntKind.u64.wrap (Int.tdiv (IntKind.u64.wrap ((IntKind.u64.wrap ((IntKind.u64.wrap ((Go.bits .or .u64 (ji12) (ji15)) * 4294967296)) + ((ji17) / 4294967296))) - (IntKind.u64.wrap (x15_18 * ji10)))) ((ji10) / 4294967296))) * ((ji10) / 4294967296))))), (IntKind.u64.wrap (Int.tdiv (IntKind.u64.wrap ((IntKind.u64.wrap ((IntKind.u64.wrap ((Go.bits .or .u64 (ji12) (ji15)) * 4294967296)) + ((ji17) / 4294967296))) - (IntKind.u64.wrap (x15_18 * ji10)))) ((ji10) / 4294967296))), (by first | rfl | (simp; done) | (simp only [← hji10, ← hji12, ← hji15, ← hji17] <;> (first | rfl | simp)) | (simp [*]; done)), (by first | rfl | (simp; done) | (simp only [← hji10, ← hji12, ← hji15, ← hji17] <;> (first | rfl | simp)) | (simp [*]; done)), H', ⟨Nat.le_refl _⟩, by repeat (first | exact dh.refl _ | apply dh.step)⟩
        case round =>
         clear H'
         obtain ⟨x16_2, x18_2, rfl, rfl, HA, HK2, ⟨m2, rfl⟩⟩ := hrel; cases gk with
         | zero => exact absurd HA.out (by simp [bz.l1])
         | succ k2 =>
          have H := HA.out; clear HA; simp only [bz.l1] at H; have HC25 := aa.mk H; clear H
          go_upto_region 24 with (fail)
          repeat (go_quiet (fail); go_upto_region 24 with (fail))
          go_cut [113] (fun v113 wc => ∃ (kq : Nat) (x113_24 : Bool), v113 = .bool x113_24 ∧ aa (bz.j4 kq ji10 ji8 ((ji10) / 4294967296) (Go.bits .and .u64 (ji10) 4294967295) (Go.bits .and .u64 (ji17) 4294967295) x15_18 x16_2 (IntKind.u64.wrap ((IntKind.u64.wrap ((IntKind.u64.wrap ((Go.bits .or .u64 (ji12) (ji15)) * 4294967296)) + ((ji17) / 4294967296))) - (IntKind.u64.wrap (x15_18 * ji10)))) x18_2 x113_24 = some (r1, r2)) ∧ aa (kq ≤ k2) ∧ dh w wc)
          case first =>
           have H := HC25.out; clear HC25
           by_cases c26 : x18_2 ≥ 4294967296
           rotate_left
           ·
            rw [if_neg c26] at H; have c26b0 : decide (4294967296 ≤ x18_2) = false := decide_eq_false c26; clear c26
            (first | rw [c26b0] | (simp only [jw, l8]; rw [c26b0]) | skip)
            have H' := aa.mk H; clear H; go_wp2
            repeat (go_quiet (fail); try go_wp2)
            go_meet
            case rel => exact ⟨_, (decide ((IntKind.u64.wrap (x18_2 * (Go.bits .and .u64 (ji10) 4294967295))) > (IntKind.u64.wrap ((IntKind.u64.wrap (4294967296 * x16_2)) + (Go.bits .and .u64 (ji17) 4294967295))))), (by first | rfl | (simp; done) | (simp only [← hji10, ← hji17] <;> (first | rfl | simp)) | (simp [*]; done)), H', ⟨by have := HJ18.out; have := HK2.out; first | omega | exact Nat.le_refl _⟩, by repeat (first | exact dh.refl _ | apply dh.step)⟩
           rw [if_pos c26] at H; have c26b0 : decide (4294967296 ≤ x18_2) = true := decide_eq_true c26; clear c26
           (first | rw [c26b0] | (simp only [jw, l8]; rw [c26b0]) | skip)
           have H' := aa.mk H; clear H; go_wp2
           repeat (go_quiet (fail); try go_wp2)
           go_meet
           case rel => exact ⟨_, (true), (by first | rfl | (simp; done) | (simp [*]; done)), H', ⟨by have := HJ18.out; have := HK2.out; first | omega | exact Nat.le_refl _⟩, by repeat (first | exact dh.refl _ | apply dh.step)⟩
          case rest =>
           clear HC25
           obtain ⟨kq, x113_24, rfl, HA, HJ24, ⟨mc24, rfl⟩⟩ := hcut; cases kq with
           | zero => exact absurd HA.out (by simp [bz.j4])
           | succ kj24 =>
            have H := HA.out; clear HA; simp only [bz.j4] at H
            by_cases c27 : x113_24 = true
            ·
             subst c27; rw [if_pos rfl] at H
             by_cases c28 : (IntKind.u64.wrap (x16_2 + ((ji10) / 4294967296))) ≥ 4294967296
             rotate_left
             ·
              rw [if_neg c28] at H; have c28b0 : decide (4294967296 ≤ (IntKind.u64.wrap (x16_2 + ((ji10) / 4294967296)))) = false := decide_eq_false c28; clear c28; have H' := aa.mk H; clear H; go_wp2
              repeat (go_quiet (fail); try go_wp2)
              go_roundg kj24
              case measure => have := HJ18.out; have := HK2.out; have := HJ24.out; omega
              case rel => exact ⟨(IntKind.u64.wrap (x16_2 + ((ji10) / 4294967296))), (IntKind.u64.wrap (x18_2 - 1)), (by first | rfl | (simp; done) | (simp only [← hji10] <;> (first | rfl | simp)) | (simp [*]; done)), (by first | rfl | (simp; done) | (simp [*]; done)), H', ⟨by have := HJ18.out; have := HK2.out; have := HJ24.out; omega⟩, by repeat (first | exact dh.refl _ | apply dh.step)⟩
             rw [if_pos c28] at H; have c28b0 : decide (4294967296 ≤ (IntKind.u64.wrap (x16_2 + ((ji10) / 4294967296)))) = true := decide_eq_true c28; clear c28
             by_cases c29 : 0 ≤ ji8
             rotate_left
             ·
              rw [if_neg c29] at H; exact absurd H (by simp)
             rw [if_pos c29] at H; have c29b0 := eq_true c29; have c29b1 := decide_eq_true c29; clear c29; obtain ⟨ji30, hji30⟩ : ∃ j_ : Int, (shr .u64 (IntKind.u64.wrap ((IntKind.u64.wrap ((IntKind.u64.wrap ((IntKind.u64.wrap ((IntKind.u64.wrap ((IntKind.u64.wrap ((Go.bits .or .u64 (ji12) (ji15)) * 4294967296)) + ((ji17) / 4294967296))) - (IntKind.u64.wrap (x15_18 * ji10)))) * 4294967296)) + (Go.bits .and .u64 (ji17) 4294967295))) - (IntKind.u64.wrap ((IntKind.u64.wrap (x18_2 - 1)) * ji10)))) ji8) = j_ := ⟨_, rfl⟩; replace H : (some (IntKind.u64.wrap ((IntKind.u64.wrap (x15_18 * 4294967296)) + (IntKind.u64.wrap (x18_2 - 1))), ji30)) = some (r1, r2) := by first | (rw [hji30] at H; exact H) | (simp only [hji30] at H ⊢; exact H)
             have hji30_ : ((IntKind.u64.wrap ((IntKind.u64.wrap ((IntKind.u64.wrap ((IntKind.u64.wrap ((IntKind.u64.wrap ((IntKind.u64.wrap ((Go.bits .or .u64 (ji12) (ji15)) * 4294967296)) + ((ji17) / 4294967296))) - (IntKind.u64.wrap (x15_18 * ji10)))) * 4294967296)) + (Go.bits .and .u64 (ji17) 4294967295))) - (IntKind.u64.wrap ((IntKind.u64.wrap (x18_2 - 1)) * ji10)))) / 2 ^ min ji8.toNat 64) = ji30 := hji30; have hji30z : ji8 ≤ 64 → ((IntKind.u64.wrap ((IntKind.u64.wrap ((IntKind.u64.wrap ((IntKind.u64.wrap ((IntKind.u64.wrap ((IntKind.u64.wrap ((Go.bits .or .u64 (ji12) (ji15)) * 4294967296)) + ((ji17) / 4294967296))) - (IntKind.u64.wrap (x15_18 * ji10)))) * 4294967296)) + (Go.bits .and .u64 (ji17) 4294967295))) - (IntKind.u64.wrap ((IntKind.u64.wrap (x18_2 - 1)) * ji10)))) / 2 ^ ji8.toNat) = ji30 := yx hji30; simp only [Option.some.injEq, Prod.mk.injEq] at H; obtain ⟨rfl, rfl⟩ := H; go_wp2
             repeat (go_quiet (fail); try go_wp2)
             go_ret2
             exact ⟨by first | rfl | (simp; done) | (simp only [← hji8, ← hji10, ← hji12, ← hji13, ← hji15, ← hji17, ← hji30] <;> (first | rfl | simp)) | (simp [*]; done), by repeat (first | exact dh.refl _ | apply dh.step)⟩
            ·
             replace c27 := Bool.eq_false_iff.mpr c27; subst c27; rw [if_neg (show ¬ (false = true) by decide)] at H
             by_cases c31 : 0 ≤ ji8
             rotate_left
             ·
              rw [if_neg c31] at H; exact absurd H (by simp)
             rw [if_pos c31] at H; have c31b0 := eq_true c31; have c31b1 := decide_eq_true c31; clear c31; obtain ⟨ji32, hji32⟩ : ∃ j_ : Int, (shr .u64 (IntKind.u64.wrap ((IntKind.u64.wrap ((IntKind.u64.wrap ((IntKind.u64.wrap ((IntKind.u64.wrap ((IntKind.u64.wrap ((Go.bits .or .u64 (ji12) (ji15)) * 4294967296)) + ((ji17) / 4294967296))) - (IntKind.u64.wrap (x15_18 * ji10)))) * 4294967296)) + (Go.bits .and .u64 (ji17) 4294967295))) - (IntKind.u64.wrap (x18_2 * ji10)))) ji8) = j_ := ⟨_, rfl⟩; replace H : (some (IntKind.u64.wrap ((IntKind.u64.wrap (x15_18 * 4294967296)) + x18_2), ji32)) = some (r1, r2) := by first | (rw [hji32] at H; exact H) | (simp only [hji32] at H ⊢; exact H)
             have hji32_ : ((IntKind.u64.wrap ((IntKind.u64.wrap ((IntKind.u64.wrap ((IntKind.u64.wrap ((IntKind.u64.wrap ((IntKind.u64.wrap ((Go.bits .or .u64 (ji12) (ji15)) * 4294967296)) + ((ji17) / 4294967296))) - (IntKind.u64.wrap (x15_18 * ji10)))) * 4294967296)) + (Go.bits .and .u64 (ji17) 4294967295))) - (IntKind.u64.wrap (x18_2 * ji10)))) / 2 ^ min ji8.toNat 64) = ji32 := hji32; have hji32z : ji8 ≤ 64 → ((IntKind.u64.wrap ((IntKind.u64.wrap ((IntKind.u64.wrap ((IntKind.u64.wrap ((IntKind.u64.wrap ((IntKind.u64.wrap ((Go.bits .or .u64 (ji12) (ji15)) * 4294967296)) + ((ji17) / 4294967296))) - (IntKind.u64.wrap (x15_18 * ji10)))) * 4294967296)) + (Go.bits .and .u64 (ji17) 4294967295))) - (IntKind.u64.wrap (x18_2 * ji10)))) / 2 ^ ji8.toNat) = ji32 := yx hji32; simp only [Option.some.injEq, Prod.mk.injEq] at H; obtain ⟨rfl, rfl⟩ := H; go_wp2
             repeat (go_quiet (fail); try go_wp2)
             go_ret2
             exact ⟨by first | rfl | (simp; done) | (simp only [← hji8, ← hji10, ← hji12, ← hji13, ← hji15, ← hji17, ← hji32] <;> (first | rfl | simp)) | (simp [*]; done), by repeat (first | exact dh.refl _ | apply dh.step)⟩
/-! ### l7: function 74 -/
def l7.f (k : Nat) (a0_0 : Int) (a0_1 : Int) (a1 : Int) : Option (Int × Int × Bool) := if a0_0 ≥ a1 then (some (0, 0, false)) else ((bz.f k a0_0 a0_1 a1).bind fun bt259 => (some (bt259.1, bt259.2, true)))
theorem l7.mono : ∀ a0 a1 a2 k, LeO (l7.f k a0 a1 a2) (l7.f (k + 1) a0 a1 a2) := by
 intro a0 a1 a2 k
 unfold l7.f
 repeat' with_reducible first | apply bz.mono | exact LeO.refl _ | exact LeO.none _ | refine LeO.ite ?_ ?_ | refine LeO.bind ?_ (fun _ => ?_)
set_option maxHeartbeats 8000000 in
set_option maxRecDepth 100000 in
theorem l7.calls (k : Nat) (a0_0 : Int) (a0_1 : Int) (a1 : Int) (r1 : Int) (r2 : Int) (r3 : Bool) (w : World) (h : l7.f k a0_0 a0_1 a1 = some (r1, r2, r3)) :
  Calls Tryd.prog 74 #[.agg #[.int .u64 a0_0, .int .u64 a0_1], .int .u64 a1] w fun e w' => e = .returned (.tuple #[.int .u64 r1, .int .u64 r2, .bool r3]) ∧ Below w.heap.size w w' := by
 have hu65 := Tryd.underlying65; have HB := aa.mk (Below.refl w.heap.size w); have H : (if a0_0 ≥ a1 then (some (0, 0, false)) else ((bz.f k a0_0 a0_1 a1).bind fun bt259 => (some (bt259.1, bt259.2, true)))) = some (r1, r2, r3) := h; clear h
 by_cases c3 : a0_0 ≥ a1
 ·
  rw [if_pos c3] at H; have c3b0 : decide (a1 ≤ a0_0) = true := decide_eq_true c3; clear c3; simp only [Option.some.injEq, Prod.mk.injEq] at H; obtain ⟨rfl, rfl, rfl⟩ := H; go_enter Tryd.func74, Tryd.ntmps74
  go_wp2_with (first | ((with_reducible refine bq (N := 2) rfl ?_); refine l5 (N := 2) (cs := #[.int .u64 a0_0, .int .u64 a0_1]) (t := 65) ?_; intro gb258 hg w4 hbox hb; refine ax4 (af bel hb) hbox ((ge hg : w.heap.size ≤ gb258)) ((ge hg : w.heap.size ≤ gb258)) ?_; clear HB; intro HB BK258 GW258 GE258; clear hb hbox hg; have ⟨_, _⟩ := cf BK258 0 rfl; have ⟨_, _⟩ := cf BK258 1 rfl))
  go_ret3
  exact ⟨er, bes⟩
 ·
  rw [if_neg c3] at H; have c3b0 : decide (a1 ≤ a0_0) = false := decide_eq_false c3; clear c3; obtain ⟨⟨t259, t260⟩, A6, H⟩ := ob H; (try dsimp -simprocs only at H); simp only [Option.some.injEq, Prod.mk.injEq] at H; obtain ⟨rfl, rfl, rfl⟩ := H; go_enter Tryd.func74, Tryd.ntmps74
  go_wp2_with (first | ((with_reducible refine bq (N := 2) rfl ?_); refine l5 (N := 2) (cs := #[.int .u64 a0_0, .int .u64 a0_1]) (t := 65) ?_; intro gb258 hg w7 hbox hb; refine ax4 (af bel hb) hbox ((ge hg : w.heap.size ≤ gb258)) ((ge hg : w.heap.size ≤ gb258)) ?_; clear HB; intro HB BK258 GW258 GE258; clear hb hbox hg; have ⟨_, _⟩ := cf BK258 0 rfl; have ⟨_, _⟩ := cf BK258 1 rfl) | ((with_reducible refine ag (f := 78) rfl ?_); refine df (some 19) rfl rfl Tryd.func78 (by kernel_rfl) rfl #[.int .u64 a0_0, .int .u64 a0_1, .int .u64 a1] rfl ga ?_; (with_reducible refine (bz.calls k a0_0 a0_1 a1 t259 t260 _ A6.out).mono ?_); rintro e w' ⟨rfl, ⟨nd, rfl⟩⟩; refine ⟨_, rfl, ?_⟩))
  go_ret3
  exact ⟨er, bes⟩

/-! ### fu: function 65 -/
mutual
def fu.j0 : Nat → Int → Int → Bool → Int → Int → Bool → Option (Int × Int)
 | 0, _, _, _, _, _, _ => none
 | k + 1, x0, x1, x9, x10, x11, x42 => if x42 = true then (some (9221120237041090560, 16)) else (if x10 = 4 then ((ko.f x9 2047 0).bind fun t271 => (some (t271, 0))) else (if x11 = 4 then (fu.j1 k x0 x1 x9 x11 true) else (fu.j1 k x0 x1 x9 x11 (x10 == 1))))
def fu.j1 : Nat → Int → Int → Bool → Int → Bool → Option (Int × Int)
 | 0, _, _, _, _, _ => none
 | k + 1, x0, x1, x9, x11, x62 => if x62 = true then ((ko.f x9 0 0).bind fun t272 => (some (t272, 0))) else (if x11 = 1 then ((ko.f x9 2047 0).bind fun t273 => (some (t273, 8))) else ((jf.f k x0).bind fun bt274 => ((jf.f k x1).bind fun bt276 => ((jd.f k 0 bt274.1).bind fun t278 => ((jd.f k 0 bt276.1).bind fun t279 => (if 0 ≤ (wrap64 ((wrap64 (53 - t278)) + 10)) then (if 0 ≤ (wrap64 (64 - t279)) then ((l7.f k (shl .u64 bt274.1 (wrap64 ((wrap64 (53 - t278)) + 10))) 0 (shl .u64 bt276.1 (wrap64 (64 - t279)))).bind fun bt281 => ((aj.f k x9 0 bt281.1 (wrap64 ((wrap64 ((wrap64 ((wrap64 (bt274.2 - (wrap64 (53 - t278)))) - 10)) - 64)) - (wrap64 (bt276.2 - (wrap64 (64 - t279)))))) (bt281.2.1 != 0)).bind fun bt284 => (some (bt284.1, bt284.2)))) else (none)) else (none)))))))
end
def fu.f (k : Nat) (a0 : Int) (a1 : Int) : Option (Int × Int) := (jc.f k (([a0, a1] : List Int))).bind fun bt264 => (if bt264.2.2 = true then (some (bt264.1, bt264.2.1)) else ((lh.f a0).bind fun t267 => ((lh.f a1).bind fun t268 => ((dw.f k a0).bind fun t269 => ((dw.f k a1).bind fun t270 => (if t269 = 4 then (if t270 = 4 then (fu.j0 k a0 a1 (t267 != t268) t269 t270 true) else (if t269 = 1 then (fu.j0 k a0 a1 (t267 != t268) t269 t270 (t270 == 1)) else (fu.j0 k a0 a1 (t267 != t268) t269 t270 false))) else (if t269 = 1 then (fu.j0 k a0 a1 (t267 != t268) t269 t270 (t270 == 1)) else (fu.j0 k a0 a1 (t267 != t268) t269 t270 false))))))))
theorem fu.jm : ∀ k, (∀ y0 y1 y2 y3 y4 y5, LeO (fu.j0 k y0 y1 y2 y3 y4 y5) (fu.j0 (k + 1) y0 y1 y2 y3 y4 y5)) ∧ (∀ y0 y1 y2 y3 y4, LeO (fu.j1 k y0 y1 y2 y3 y4) (fu.j1 (k + 1) y0 y1 y2 y3 y4))
 | 0 => ⟨fun _ _ _ _ _ _ r h => by simp [fu.j0] at h, fun _ _ _ _ _ r h => by simp [fu.j1] at h⟩
 | k + 1 => by
  obtain ⟨ih0, ih1⟩ := fu.jm k
  refine ⟨?_, ?_⟩ <;> intros <;> (first | unfold fu.j0 | unfold fu.j1) <;>
   repeat' with_reducible first | apply ih0 | apply ih1 | apply aj.mono | apply jc.mono | apply l7.mono | apply jd.mono | apply dw.mono | apply jf.mono | exact LeO.refl _ | exact LeO.none _ | refine LeO.ite ?_ ?_ | refine LeO.bind ?_ (fun _ => ?_)
theorem fu.mono : ∀ a0 a1 k, LeO (fu.f k a0 a1) (fu.f (k + 1) a0 a1) := by
 intro a0 a1 k; obtain ⟨ih0, ih1⟩ := fu.jm k
 unfold fu.f
 repeat' with_reducible first | apply ih0 | apply ih1 | apply aj.mono | apply jc.mono | apply l7.mono | apply jd.mono | apply dw.mono | apply jf.mono | exact LeO.refl _ | exact LeO.none _ | refine LeO.ite ?_ ?_ | refine LeO.bind ?_ (fun _ => ?_)
def fu.T18 : Bool × List (List Nat × List Nat) := (true, [([], []), ([], []), ([], []), ([1, 2], [1, 2]), ([0, 3], [0, 3]), ([4], [4]), ([5], [5]), ([5], [5]), ([5], [5]), ([6, 4, 0, 1, 2, 3, 4, 5, 6], [6]), ([7, 9, 0, 1, 2, 3, 4, 5, 6, 7, 9], [7]), ([8, 10, 0, 1, 2, 3, 4, 5, 6, 7, 8, 9, 10], [8])])
def fu.B18 : List Nat := [0, 0, 0, 6, 15, 31, 63, 63, 63, 127, 767, 2047]
theorem fu.tab18 : xe .any (opsOf Tryd.f65 18) = fu.T18 := by kernel_rfl
theorem fu.bits18 : r9 fu.T18.2 fu.B18 = true := by kernel_rfl
set_option maxHeartbeats 8000000 in
set_option maxRecDepth 100000 in
theorem fu.calls (k : Nat) (a0 : Int) (a1 : Int) (r1 : Int) (r2 : Int) (w : World) (h : fu.f k a0 a1 = some (r1, r2)) :
  Calls Tryd.prog 65 #[.int .u64 a0, .int .u64 a1] w fun e w' => e = .returned (.tuple #[.int .u64 r1, .int .u8 r2]) ∧ Below w.heap.size w w' := by
 have hu65 := Tryd.underlying65; have HB := aa.mk (Below.refl w.heap.size w); have H : ((jc.f k (([a0, a1] : List Int))).bind fun bt264 => (if bt264.2.2 = true then (some (bt264.1, bt264.2.1)) else ((lh.f a0).bind fun t267 => ((lh.f a1).bind fun t268 => ((dw.f k a0).bind fun t269 => ((dw.f k a1).bind fun t270 => (if t269 = 4 then (if t270 = 4 then (fu.j0 k a0 a1 (t267 != t268) t269 t270 true) else (if t269 = 1 then (fu.j0 k a0 a1 (t267 != t268) t269 t270 (t270 == 1)) else (fu.j0 k a0 a1 (t267 != t268) t269 t270 false))) else (if t269 = 1 then (fu.j0 k a0 a1 (t267 != t268) t269 t270 (t270 == 1)) else (fu.j0 k a0 a1 (t267 != t268) t269 t270 false))))))))) = some (r1, r2) := h; clear h; obtain ⟨y261, hy261⟩ : ∃ y_ : List Int, y_ = (([a0, a1] : List Int)) := ⟨_, rfl⟩; replace H : ((jc.f k y261).bind fun bt264 => (if bt264.2.2 = true then (some (bt264.1, bt264.2.1)) else ((lh.f a0).bind fun t267 => ((lh.f a1).bind fun t268 => ((dw.f k a0).bind fun t269 => ((dw.f k a1).bind fun t270 => (if t269 = 4 then (if t270 = 4 then (fu.j0 k a0 a1 (t267 != t268) t269 t270 true) else (if t269 = 1 then (fu.j0 k a0 a1 (t267 != t268) t269 t270 (t270 == 1)) else (fu.j0 k a0 a1 (t267 != t268) t269 t270 false))) else (if t269 = 1 then (fu.j0 k a0 a1 (t267 != t268) t269 t270 (t270 == 1)) else (fu.j0 k a0 a1 (t267 != t268) t269 t270 false))))))))) = some (r1, r2) := by first | (rw [hy261]; with_reducible exact H) | (have H2_ := (Option.bind_some _ _).symm.trans H; rw [hy261]; with_reducible exact H2_) | (have H2_ := (Option.bind_some _ _).symm.trans H; with_reducible exact H2_) | with_reducible exact H | (rw [hy261]; exact H) | exact H
 have Ny261 := aa.mk hy261; clear hy261; obtain ⟨⟨t264, t265, t266⟩, A3, H⟩ := ob H; (try dsimp -simprocs only at H)
 by_cases c4 : t266 = true
 ·
  subst c4; rw [if_pos rfl] at H; simp only [Option.some.injEq, Prod.mk.injEq] at H; obtain ⟨rfl, rfl⟩ := H; go_enter Tryd.func65, Tryd.ntmps65
  go_wp2_with (first | ((with_reducible refine bq (N := 25) rfl ?_); refine Kd.Cj (Kd.int .u64) _ 24 ?hg (N := 25) ?hd (xs := ([a0, a1] : List Int)) (inner := [.int .u64 a0, .int .u64 a1]) (ok := fun _ => True) (okp := fun _ => True) ?hr ?hp (fun _ hk => hk) trivial (Below.refl _ _) (Nat.le_refl _) (by simp) ?_; (case hd => rfl); (case hg => rfl); (case hr => first | (go_simp; done) | (go_simp; rfl)); (case hp => exact (qj.one (show Kd.M (Kd.int .u64) _ _ _ a0 [.int .u64 a0] from rfl) (qj.one (show Kd.M (Kd.int .u64) _ _ _ a1 [.int .u64 a1] from rfl) (qj.none _ _)))); intro v262 w5 ho6 hb hg_ hnew_; clear hg_ hnew_; (first | rw [← Ny261.out] at ho6 | (simp only [Int.reduceToNat] at ho6; rw [← Ny261.out] at ho6)); refine ax2 (Kd.pg ho6 (az bel)) (af bel hb) ?_; clear HB; intro HO263 HB; clear hb ho6; obtain ⟨Ao7, co7, eo7⟩ := Kd.mg HO263.out; subst eo7) | ((with_reducible refine ag (f := 70) rfl ?_); refine df (some 26) rfl rfl Tryd.func70 (by kernel_rfl) rfl #[.slice Ao7 y261.length co7] rfl ga ?_; (with_reducible refine (jc.calls k _ _ y261 t264 t265 true _ ?side1 ?side2 A3.out).mono ?_); (case side1 => exact ks HO263); (case side2 => exact (Kd.jq HO263.out).2.1); rintro e w' ⟨rfl, ⟨nd, rfl⟩⟩; refine ⟨_, rfl, ?_⟩))
  go_ret2
  exact ⟨er, bel⟩
 ·
  replace c4 := Bool.eq_false_iff.mpr c4; subst c4; rw [if_neg (show ¬ (false = true) by decide)] at H; obtain ⟨t267, A8, H⟩ := ob H; (try dsimp -simprocs only at H); obtain ⟨t268, A9, H⟩ := ob H; (try dsimp -simprocs only at H); obtain ⟨t269, A10, H⟩ := ob H; (try dsimp -simprocs only at H); obtain ⟨t270, A11, H⟩ := ob H; (try dsimp -simprocs only at H); have HC12 := aa.mk H; clear H; go_enter Tryd.func65, Tryd.ntmps65
  go_upto_region 6 with (first | ((with_reducible refine bq (N := 25) rfl ?_); refine Kd.Cj (Kd.int .u64) _ 24 ?hg (N := 25) ?hd (xs := ([a0, a1] : List Int)) (inner := [.int .u64 a0, .int .u64 a1]) (ok := fun _ => True) (okp := fun _ => True) ?hr ?hp (fun _ hk => hk) trivial (Below.refl _ _) (Nat.le_refl _) (by simp) ?_; (case hd => rfl); (case hg => rfl); (case hr => first | (go_simp; done) | (go_simp; rfl)); (case hp => exact (qj.one (show Kd.M (Kd.int .u64) _ _ _ a0 [.int .u64 a0] from rfl) (qj.one (show Kd.M (Kd.int .u64) _ _ _ a1 [.int .u64 a1] from rfl) (qj.none _ _)))); intro v262 w13 ho14 hb hg_ hnew_; clear hg_ hnew_; (first | rw [← Ny261.out] at ho14 | (simp only [Int.reduceToNat] at ho14; rw [← Ny261.out] at ho14)); refine ax2 (Kd.pg ho14 (az bel)) (af bel hb) ?_; clear HB; intro HO263 HB; clear hb ho14; obtain ⟨Ao15, co15, eo15⟩ := Kd.mg HO263.out; subst eo15) | ((with_reducible refine ag (f := 70) rfl ?_); refine df (some 26) rfl rfl Tryd.func70 (by kernel_rfl) rfl #[.slice Ao15 y261.length co15] rfl ga ?_; (with_reducible refine (jc.calls k _ _ y261 t264 t265 false _ ?side1 ?side2 A3.out).mono ?_); (case side1 => exact ks HO263); (case side2 => exact (Kd.jq HO263.out).2.1); rintro e w' ⟨rfl, ⟨nd, rfl⟩⟩; refine ⟨_, rfl, ?_⟩) | ((with_reducible refine ag (f := 29) rfl ?_); refine df (some 34) rfl rfl Tryd.func29 (by kernel_rfl) rfl #[.int .u64 a0] rfl ga ?_; (with_reducible refine (lh.calls a0 t267 _ A8.out).mono ?_); rintro e w' ⟨rfl, ⟨nd, rfl⟩⟩; refine ⟨_, rfl, ?_⟩) | ((with_reducible refine ag (f := 29) rfl ?_); refine df (some 36) rfl rfl Tryd.func29 (by kernel_rfl) rfl #[.int .u64 a1] rfl ga ?_; (with_reducible refine (lh.calls a1 t268 _ A9.out).mono ?_); rintro e w' ⟨rfl, ⟨nd, rfl⟩⟩; refine ⟨_, rfl, ?_⟩) | ((with_reducible refine ag (f := 40) rfl ?_); refine df (some 39) rfl rfl Tryd.func40 (by kernel_rfl) rfl #[.int .u64 a0] rfl ga ?_; (with_reducible refine (dw.calls k a0 t269 _ A10.out).mono ?_); rintro e w' ⟨rfl, ⟨nd, rfl⟩⟩; refine ⟨_, rfl, ?_⟩) | ((with_reducible refine ag (f := 40) rfl ?_); refine df (some 41) rfl rfl Tryd.func40 (by kernel_rfl) rfl #[.int .u64 a1] rfl ga ?_; (with_reducible refine (dw.calls k a1 t270 _ A11.out).mono ?_); rintro e w' ⟨rfl, ⟨nd, rfl⟩⟩; refine ⟨_, rfl, ?_⟩))
  (try simp only [Act.put, sa0, sa1, sa2])
  go_cut [9, 42] (fun v9 v42 wc => ∃ (kq : Nat) (x9_11 : Bool) (x42_11 : Bool), v9 = .bool x9_11 ∧ v42 = .bool x42_11 ∧ aa (fu.j0 kq a0 a1 x9_11 t269 t270 x42_11 = some (r1, r2)) ∧ aa (kq ≤ k) ∧ aa (Below w.heap.size w wc))
  case first =>
   have H := HC12.out; clear HC12
   by_cases c16 : t269 = 4
   ·
    rw [if_pos c16] at H; have c16b0 := beq_iff_eq.mpr c16; have c16b1 := bne_eq_false_iff_eq.mpr c16; clear c16
    (first | rw [c16b0] | (simp only [jw, l8]; rw [c16b0]) | skip)
    by_cases c17 : t270 = 4
    ·
     rw [if_pos c17] at H; have c17b0 := beq_iff_eq.mpr c17; have c17b1 := bne_eq_false_iff_eq.mpr c17; clear c17; have H' := aa.mk H; clear H; go_wp2; go_meet
     case rel => exact ⟨_, ((t267 != t268)), (true), (by first | rfl | (simp; done) | (simp [*]; done)), (by first | rfl | (simp; done) | (simp [*]; done)), H', ⟨by first | omega | exact Nat.le_refl _⟩, ⟨bel⟩⟩
    ·
     rw [if_neg c17] at H; have c17b0 := beq_eq_false_iff_ne.mpr c17; have c17b1 := bne_iff_ne.mpr c17
     by_cases c18 : t269 = 1
     rotate_left
     ·
      rw [if_neg c18] at H; have c18b0 := beq_eq_false_iff_ne.mpr c18; have c18b1 := bne_iff_ne.mpr c18; have H' := aa.mk H; clear H; go_wp2; go_meet
      case rel => exact ⟨_, ((t267 != t268)), (false), (by first | rfl | (simp; done) | (simp [*]; done)), (by first | rfl | (simp; done) | (simp [*]; done)), H', ⟨by first | omega | exact Nat.le_refl _⟩, ⟨bel⟩⟩
     rw [if_pos c18] at H; have c18b0 := beq_iff_eq.mpr c18; have c18b1 := bne_eq_false_iff_eq.mpr c18; clear c18; have H' := aa.mk H; clear H; go_wp2; go_meet
     case rel => exact ⟨_, ((t267 != t268)), ((t270 == 1)), (by first | rfl | (simp; done) | (simp [*]; done)), (by first | rfl | (simp; done) | (simp [*]; done)), H', ⟨by first | omega | exact Nat.le_refl _⟩, ⟨bel⟩⟩
   ·
    rw [if_neg c16] at H; have c16b0 := beq_eq_false_iff_ne.mpr c16; have c16b1 := bne_iff_ne.mpr c16
    (first | rw [c16b0] | (simp only [jw, l8]; rw [c16b0]) | skip)
    by_cases c19 : t269 = 1
    rotate_left
    ·
     rw [if_neg c19] at H; have c19b0 := beq_eq_false_iff_ne.mpr c19; have c19b1 := bne_iff_ne.mpr c19; have H' := aa.mk H; clear H; go_wp2; go_meet
     case rel => exact ⟨_, ((t267 != t268)), (false), (by first | rfl | (simp; done) | (simp [*]; done)), (by first | rfl | (simp; done) | (simp [*]; done)), H', ⟨by first | omega | exact Nat.le_refl _⟩, ⟨bel⟩⟩
    rw [if_pos c19] at H; have c19b0 := beq_iff_eq.mpr c19; have c19b1 := bne_eq_false_iff_eq.mpr c19; clear c19; have H' := aa.mk H; clear H; go_wp2; go_meet
    case rel => exact ⟨_, ((t267 != t268)), ((t270 == 1)), (by first | rfl | (simp; done) | (simp [*]; done)), (by first | rfl | (simp; done) | (simp [*]; done)), H', ⟨by first | omega | exact Nat.le_refl _⟩, ⟨bel⟩⟩
  case rest =>
   clear HC12
   obtain ⟨kq, x9_11, x42_11, rfl, rfl, HA, HJ11, HB⟩ := hcut; cases kq with
   | zero => exact absurd HA.out (by simp [fu.j0])
   | succ kj11 =>
    have H := HA.out; clear HA; simp only [fu.j0] at H
    by_cases c20 : x42_11 = true
    ·
     subst c20; rw [if_pos rfl] at H; simp only [Option.some.injEq, Prod.mk.injEq] at H; obtain ⟨rfl, rfl⟩ := H; go_wp2
     go_ret2
     exact ⟨er, bel⟩
    ·
     replace c20 := Bool.eq_false_iff.mpr c20; subst c20; rw [if_neg (show ¬ (false = true) by decide)] at H
     by_cases c21 : t269 = 4
     ·
      rw [if_pos c21] at H; have c21b0 := beq_iff_eq.mpr c21; have c21b1 := bne_eq_false_iff_eq.mpr c21; clear c21; obtain ⟨t271, A22, H⟩ := ob H; (try dsimp -simprocs only at H); simp only [Option.some.injEq, Prod.mk.injEq] at H; obtain ⟨rfl, rfl⟩ := H
      go_wp2_with (first | ((with_reducible refine ag (f := 54) rfl ?_); refine df (some 61) rfl rfl Tryd.func54 (by kernel_rfl) rfl #[.bool x9_11, .int .i64 2047, .int .u64 0] rfl ga ?_; (with_reducible refine (ko.calls x9_11 2047 0 t271 _ A22.out).mono ?_); rintro e w' ⟨rfl, ⟨nd, rfl⟩⟩; refine ⟨_, rfl, ?_⟩))
      go_ret2
      exact ⟨er, bel⟩
     ·
      rw [if_neg c21] at H; have c21b0 := beq_eq_false_iff_ne.mpr c21; have c21b1 := bne_iff_ne.mpr c21; have HC23 := aa.mk H; clear H
      go_upto_region 10 with (fail)
      go_cut [62] (fun v62 wc => ∃ (kq : Nat) (x62_22 : Bool), v62 = .bool x62_22 ∧ aa (fu.j1 kq a0 a1 x9_11 t270 x62_22 = some (r1, r2)) ∧ aa (kq ≤ kj11) ∧ aa (Below w.heap.size w wc))
      case first =>
       have H := HC23.out; clear HC23
       by_cases c24 : t270 = 4
       rotate_left
       ·
        rw [if_neg c24] at H; have c24b0 := beq_eq_false_iff_ne.mpr c24; have c24b1 := bne_iff_ne.mpr c24
        (first | rw [c24b0] | (simp only [jw, l8]; rw [c24b0]) | skip)
        have H' := aa.mk H; clear H; go_wp2; go_meet
        case rel => exact ⟨_, ((t269 == 1)), (by first | rfl | (simp; done) | (simp [*]; done)), H', ⟨by have := HJ11.out; first | omega | exact Nat.le_refl _⟩, ⟨bel⟩⟩
       rw [if_pos c24] at H; have c24b0 := beq_iff_eq.mpr c24; have c24b1 := bne_eq_false_iff_eq.mpr c24; clear c24
       (first | rw [c24b0] | (simp only [jw, l8]; rw [c24b0]) | skip)
       have H' := aa.mk H; clear H; go_wp2; go_meet
       case rel => exact ⟨_, (true), (by first | rfl | (simp; done) | (simp [*]; done)), H', ⟨by have := HJ11.out; first | omega | exact Nat.le_refl _⟩, ⟨bel⟩⟩
      case rest =>
       clear HC23
       obtain ⟨kq, x62_22, rfl, HA, HJ22, HB⟩ := hcut; cases kq with
       | zero => exact absurd HA.out (by simp [fu.j1])
       | succ kj22 =>
        have H := HA.out; clear HA; simp only [fu.j1] at H
        by_cases c25 : x62_22 = true
        ·
         subst c25; rw [if_pos rfl] at H; obtain ⟨t272, A26, H⟩ := ob H; (try dsimp -simprocs only at H); simp only [Option.some.injEq, Prod.mk.injEq] at H; obtain ⟨rfl, rfl⟩ := H
         go_wp2_with (first | ((with_reducible refine ag (f := 54) rfl ?_); refine df (some 70) rfl rfl Tryd.func54 (by kernel_rfl) rfl #[.bool x9_11, .int .i64 0, .int .u64 0] rfl ga ?_; (with_reducible refine (ko.calls x9_11 0 0 t272 _ A26.out).mono ?_); rintro e w' ⟨rfl, ⟨nd, rfl⟩⟩; refine ⟨_, rfl, ?_⟩))
         go_ret2
         exact ⟨er, bel⟩
        ·
         replace c25 := Bool.eq_false_iff.mpr c25; subst c25; rw [if_neg (show ¬ (false = true) by decide)] at H
         by_cases c27 : t270 = 1
         ·
          rw [if_pos c27] at H; have c27b0 := beq_iff_eq.mpr c27; have c27b1 := bne_eq_false_iff_eq.mpr c27; clear c27; obtain ⟨t273, A28, H⟩ := ob H; (try dsimp -simprocs only at H); simp only [Option.some.injEq, Prod.mk.injEq] at H; obtain ⟨rfl, rfl⟩ := H
          go_wp2_with (first | ((with_reducible refine ag (f := 54) rfl ?_); refine df (some 75) rfl rfl Tryd.func54 (by kernel_rfl) rfl #[.bool x9_11, .int .i64 2047, .int .u64 0] rfl ga ?_; (with_reducible refine (ko.calls x9_11 2047 0 t273 _ A28.out).mono ?_); rintro e w' ⟨rfl, ⟨nd, rfl⟩⟩; refine ⟨_, rfl, ?_⟩))
          go_ret2
          exact ⟨er, bel⟩
         ·
          rw [if_neg c27] at H; have c27b0 := beq_eq_false_iff_ne.mpr c27; have c27b1 := bne_iff_ne.mpr c27; obtain ⟨⟨t274, t275⟩, A29, H⟩ := ob H; (try dsimp -simprocs only at H); obtain ⟨⟨t276, t277⟩, A30, H⟩ := ob H; (try dsimp -simprocs only at H); obtain ⟨t278, A31, H⟩ := ob H; (try dsimp -simprocs only at H); obtain ⟨t279, A32, H⟩ := ob H; (try dsimp -simprocs only at H); obtain ⟨ji33, hji33⟩ : ∃ j_ : Int, (wrap64 ((wrap64 (53 - t278)) + 10)) = j_ := ⟨_, rfl⟩; replace H : (if 0 ≤ (ji33) then (if 0 ≤ (wrap64 (64 - t279)) then ((l7.f kj22 (shl .u64 t274 (ji33)) 0 (shl .u64 t276 (wrap64 (64 - t279)))).bind fun bt281 => ((aj.f kj22 x9_11 0 bt281.1 (wrap64 ((wrap64 ((wrap64 ((wrap64 (t275 - (wrap64 (53 - t278)))) - 10)) - 64)) - (wrap64 (t277 - (wrap64 (64 - t279)))))) (bt281.2.1 != 0)).bind fun bt284 => (some (bt284.1, bt284.2)))) else (none)) else (none)) = some (r1, r2) := by first | (rw [hji33] at H; exact H) | (simp only [hji33] at H ⊢; exact H)
          (try rw [hji33] at A29); (try rw [hji33] at A30); (try rw [hji33] at A31); (try rw [hji33] at A32); have hji33w : (IntKind.i64.wrap ((wrap64 (53 - t278)) + 10)) = ji33 := (jw _).trans hji33
          by_cases c34 : 0 ≤ (ji33)
          rotate_left
          ·
           rw [if_neg c34] at H; exact absurd H (by simp)

          rw [if_pos c34] at H; have c34b0 := eq_true c34; have c34b1 := decide_eq_true c34; clear c34; obtain ⟨ji35, hji35⟩ : ∃ j_ : Int, (shl .u64 t274 (ji33)) = j_ := ⟨_, rfl⟩; replace H : (if 0 ≤ (wrap64 (64 - t279)) then ((l7.f kj22 (ji35) 0 (shl .u64 t276 (wrap64 (64 - t279)))).bind fun bt281 => ((aj.f kj22 x9_11 0 bt281.1 (wrap64 ((wrap64 ((wrap64 ((wrap64 (t275 - (wrap64 (53 - t278)))) - 10)) - 64)) - (wrap64 (t277 - (wrap64 (64 - t279)))))) (bt281.2.1 != 0)).bind fun bt284 => (some (bt284.1, bt284.2)))) else (none)) = some (r1, r2) := by first | (rw [hji35] at H; exact H) | (simp only [hji35] at H ⊢; exact H)
          (try rw [hji35] at A29); (try rw [hji35] at A30); (try rw [hji35] at A31); (try rw [hji35] at A32); have hji35_ : (IntKind.u64.wrap (t274 * 2 ^ min (ji33).toNat 64)) = ji35 := hji35; have hji35z : (ji33) ≤ 64 → (IntKind.u64.wrap (t274 * 2 ^ (ji33).toNat)) = ji35 := xn hji35; obtain ⟨ji36, hji36⟩ : ∃ j_ : Int, (wrap64 (64 - t279)) = j_ := ⟨_, rfl⟩; replace H : (if 0 ≤ (ji36) then ((l7.f kj22 (ji35) 0 (shl .u64 t276 (ji36))).bind fun bt281 => ((aj.f kj22 x9_11 0 bt281.1 (wrap64 ((wrap64 ((wrap64 ((wrap64 (t275 - (wrap64 (53 - t278)))) - 10)) - 64)) - (wrap64 (t277 - (ji36))))) (bt281.2.1 != 0)).bind fun bt284 => (some (bt284.1, bt284.2)))) else (none)) = some (r1, r2) := by first | (rw [hji36] at H; exact H) | (simp only [hji36] at H ⊢; exact H)
          (try rw [hji36] at A29); (try rw [hji36] at A30); (try rw [hji36] at A31); (try rw [hji36] at A32); have hji36w : (IntKind.i64.wrap (64 - t279)) = ji36 := (jw _).trans hji36
          by_cases c37 : 0 ≤ (ji36)
          rotate_left
          ·
           rw [if_neg c37] at H; exact absurd H (by simp)
          rw [if_pos c37] at H; have c37b0 := eq_true c37; have c37b1 := decide_eq_true c37; clear c37; obtain ⟨ji38, hji38⟩ : ∃ j_ : Int, (shl .u64 t276 (ji36)) = j_ := ⟨_, rfl⟩; replace H : ((l7.f kj22 (ji35) 0 (ji38)).bind fun bt281 => ((aj.f kj22 x9_11 0 bt281.1 (wrap64 ((wrap64 ((wrap64 ((wrap64 (t275 - (wrap64 (53 - t278)))) - 10)) - 64)) - (wrap64 (t277 - (ji36))))) (bt281.2.1 != 0)).bind fun bt284 => (some (bt284.1, bt284.2)))) = some (r1, r2) := by first | (rw [hji38] at H; exact H) | (simp only [hji38] at H ⊢; exact H)
          (try rw [hji38] at A29); (try rw [hji38] at A30); (try rw [hji38] at A31); (try rw [hji38] at A32); have hji38_ : (IntKind.u64.wrap (t276 * 2 ^ min (ji36).toNat 64)) = ji38 := hji38; have hji38z : (ji36) ≤ 64 → (IntKind.u64.wrap (t276 * 2 ^ (ji36).toNat)) = ji38 := xn hji38; obtain ⟨⟨t281, t282, t283⟩, A39, H⟩ := ob H; (try dsimp -simprocs only at H); obtain ⟨⟨t284, t285⟩, A40, H⟩ := ob H; (try dsimp -simprocs only at H); simp only [Option.some.injEq, Prod.mk.injEq] at H; obtain ⟨rfl, rfl⟩ := H
          try go_wp2_with (first | ((with_reducible refine ag (f := 66) rfl ?_); refine df (some 78) rfl rfl Tryd.func66 (by kernel_rfl) rfl #[.int .u64 a0] rfl ga ?_; (with_reducible refine (jf.calls kj22 a0 t274 t275 _ A29.out).mono ?_); rintro e w' ⟨rfl, ⟨nd, rfl⟩⟩; refine ⟨_, rfl, ?_⟩; (try (rw [qm wc]; generalize hq_ : World.drewN wc _ = wc; have n0_ : aa (Below w.heap.size w wc) := ⟨by rw [← hq_]; exact bel⟩; clear HB hq_; have HB := n0_; clear n0_))) | ((with_reducible refine ag (f := 66) rfl ?_); refine df (some 83) rfl rfl Tryd.func66 (by kernel_rfl) rfl #[.int .u64 a1] rfl ga ?_; (with_reducible refine (jf.calls kj22 a1 t276 t277 _ A30.out).mono ?_); rintro e w' ⟨rfl, ⟨nd, rfl⟩⟩; refine ⟨_, rfl, ?_⟩; (try (rw [qm wc]; generalize hq_ : World.drewN wc _ = wc; have n0_ : aa (Below w.heap.size w wc) := ⟨by rw [← hq_]; exact bel⟩; clear HB hq_; have HB := n0_; clear n0_))) | ((with_reducible refine ag (f := 55) rfl ?_); refine df (some 88) rfl rfl Tryd.func55 (by kernel_rfl) rfl #[.agg #[.int .u64 0, .int .u64 t274]] rfl ga ?_; (with_reducible refine (jd.calls kj22 0 t274 t278 _ A31.out).mono ?_); rintro e w41 ⟨rfl, hb⟩; refine ⟨_, rfl, ?_⟩; refine ax1 (af bel hb) ?_; clear HB; intro HB; (try clear hb)) | ((with_reducible refine ag (f := 55) rfl ?_); refine df (some 92) rfl rfl Tryd.func55 (by kernel_rfl) rfl #[.agg #[.int .u64 0, .int .u64 t276]] rfl ga ?_; (with_reducible refine (jd.calls kj22 0 t276 t279 _ A32.out).mono ?_); rintro e w42 ⟨rfl, hb⟩; refine ⟨_, rfl, ?_⟩; refine ax1 (af bel hb) ?_; clear HB; intro HB; (try clear hb)) | ((with_reducible refine bq (N := 18) rfl ?_); refine l5 (N := 18) (cs := #[.int .u64 0, .int .u64 0]) (t := 65) ?_; intro gb280 hg w43 hbox hb; refine ax4 (af bel hb) hbox ((ge hg : w.heap.size ≤ gb280)) ((ge hg : w.heap.size ≤ gb280)) ?_; clear HB; intro HB BK280 GW280 GE280; clear hb hbox hg; have ⟨_, _⟩ := cf BK280 0 rfl; have ⟨_, _⟩ := cf BK280 1 rfl))
          have n0_ : aa (((w43.setCell ⟨gb280, 0, none⟩ (.int .u64 ji35)).setCell ⟨gb280, 1, none⟩ (.int .u64 0)).heap[gb280]? = some (.cells #[.int .u64 ji35, .int .u64 0] 65 (0, 0))) := ⟨bp BK280⟩; have n1_ : aa (Below w.heap.size w ((w43.setCell ⟨gb280, 0, none⟩ (.int .u64 ji35)).setCell ⟨gb280, 1, none⟩ (.int .u64 0))) := ⟨bes⟩
          generalize ((w43.setCell ⟨gb280, 0, none⟩ (.int .u64 ji35)).setCell ⟨gb280, 1, none⟩ (.int .u64 0)) = w45 at n0_ n1_ ⊢
          have BK280 := n0_; have HB := n1_; clear n0_ n1_; refine ax2 (dz BK280.out) (gy HB.out) ?_; clear BK280 HB; intro BK280 HB; refine vk (n := 12) (S := fun w' => w'.cell? ⟨gb280, 0, none⟩ = some (.int .u64 ji35) ∧ w'.cell? ⟨gb280, 1, none⟩ = some (.int .u64 0)) (ds := []) #[false, false, false, false, false, false, false, false, false, false, false, false] (by kernel_rfl) rfl rfl ⟨bk BK280 0, bk BK280 1⟩ (fun hHeld => ?_); refine qa fu.tab18 fu.bits18 (fun HT_ HW_ => ?_)
          generalize w45.drew = w46 at BK280 HB hHeld ⊢
          refine pu 1 101 (lm 12 2) HT_ ?_; refine pu 2 102 (lm 12 6) HT_ ?_; refine pu 3 103 (lm 12 14) HT_ ?_; refine ta 0 100 (lm 12 15) HT_ HW_ hHeld ?_; refine on 4 (some 104) (lm 12 31) HT_ (fun K hK => ?_); refine qd Tryd.func74 (by kernel_rfl) rfl #[.agg #[.int .u64 ji35, .int .u64 0], .int .u64 ji38] (by rfl) rfl rfl (by (try simp only [List.map_toArray, List.map_cons, List.map_nil]); first | done | (simp only [hji35, hji38]; rfl) | rfl | (simp only [List.length_drop, List.length_take]; rfl)) ?_
          with_reducible refine (l7.calls kj22 ji35 0 ji38 t281 t282 t283 _ A39.out).mono ?_
          rintro e w47 ⟨rfl, hb⟩; refine ⟨_, rfl, ?_⟩; refine ax2 (bb BK280 hb) (af bes hb) ?_; clear BK280 HB; intro BK280 HB; refine hK.out _ _ ⟨bk BK280 0, bk BK280 1⟩ (fun hHeld => ?_); clear hK K; refine no 104 ?_; refine pu 5 99 (lm 12 63) HT_ ?_; refine pu 6 105 (lm 12 127) HT_ ?_; refine pu 7 106 (lm 12 255) HT_ ?_; refine pu 8 107 (lm 12 511) HT_ ?_; refine pu 9 19 (lm 12 1023) HT_ ?_; refine pu 10 20 (lm 12 2047) HT_ ?_; refine pu 11 21 (lm 12 4095) HT_ ?_; refine zg (uy HT_.out (by kernel_rfl)) ?_
          try go_wp2_with (first | ((with_reducible refine ag (f := 35) rfl ?_); refine df (some 122) rfl rfl Tryd.func35 (by kernel_rfl) rfl #[.bool x9_11, .agg #[.int .u64 0, .int .u64 t281], .int .i64 (wrap64 ((wrap64 ((wrap64 ((wrap64 (t275 - (wrap64 (53 - t278)))) - 10)) - 64)) - (wrap64 (t277 - (ji36))))), .bool (t282 != 0)] rfl (by (try simp only [List.map_toArray, List.map_cons, List.map_nil]); first | done | (simp only [hji36]; rfl) | rfl | (simp only [List.length_drop, List.length_take]; rfl)) ?_; (with_reducible refine (aj.calls kj22 x9_11 0 t281 (wrap64 ((wrap64 ((wrap64 ((wrap64 (t275 - (wrap64 (53 - t278)))) - 10)) - 64)) - (wrap64 (t277 - (ji36))))) (t282 != 0) t284 t285 _ A40.out).mono ?_); rintro e w48 ⟨rfl, hb⟩; refine ⟨_, rfl, ?_⟩; refine ax2 (bb BK280 hb) (af bes hb) ?_; clear BK280; clear HB; intro BK280 HB; (try clear hb)))
          go_ret2
          exact ⟨by first | rfl | (simp [gu, gp] <;> rfl) | (simp only [← hji33, ← hji35, ← hji36, ← hji38]; first | rfl | (simp [gu, gp] <;> rfl)) | (simp [*, gu, gp] <;> rfl), bes⟩
/-! ### o5: function 42 -/
def o5.f (k : Nat) (s0_0 : Int) (a1 : Int) (a2 : Int) : Option (Int × Int) := (fu.f k a1 a2).bind fun bt286 => ((oq.f s0_0 bt286.1 bt286.2).bind fun bt288 => (some (bt288.1, bt288.2)))
theorem o5.mono : ∀ a0 a1 a2 k, LeO (o5.f k a0 a1 a2) (o5.f (k + 1) a0 a1 a2) := by
 intro a0 a1 a2 k
 unfold o5.f
 repeat' with_reducible first | apply fu.mono | exact LeO.refl _ | exact LeO.none _ | refine LeO.ite ?_ ?_ | refine LeO.bind ?_ (fun _ => ?_)
set_option maxHeartbeats 8000000 in
set_option maxRecDepth 100000 in
theorem o5.calls (k : Nat) (g : Nat) (s0_0 : Int) (a1 : Int) (a2 : Int) (r1 : Int) (r2 : Int) (w0 w : World) (hI : di w0 w g s0_0) (hB : Below w0.heap.size w0 w) (h : o5.f k s0_0 a1 a2 = some (r1, r2)) :
  Calls Tryd.prog 42 #[.pointer (some ⟨g, 0, none⟩), .int .u64 a1, .int .u64 a2] w fun e w' => e = .returned (.int .u64 r1) ∧ di w0 w' g r2 ∧ Below w0.heap.size w0 w' ∧ fw w w' g none := by
 have HI0 := aa.mk hI; have HK := aa.mk (fw.refl w g none); have HL := aa.mk hB.size; clear hI; have HW0 := aa.mk hB.size; have HB := aa.mk hB; clear hB; have H : ((fu.f k a1 a2).bind fun bt286 => ((oq.f s0_0 bt286.1 bt286.2).bind fun bt288 => (some (bt288.1, bt288.2)))) = some (r1, r2) := h; clear h; obtain ⟨⟨t286, t287⟩, A4, H⟩ := ob H; (try dsimp -simprocs only at H); obtain ⟨⟨t288, t289⟩, A5, H⟩ := ob H; (try dsimp -simprocs only at H); simp only [Option.some.injEq, Prod.mk.injEq] at H; obtain ⟨rfl, rfl⟩ := H; go_enter Tryd.func42, Tryd.ntmps42
 go_wp2_with (first | ((with_reducible refine ag (f := 65) rfl ?_); refine df (some 10) rfl rfl Tryd.func65 (by kernel_rfl) rfl #[.int .u64 a1, .int .u64 a2] rfl ga ?_; (with_reducible refine (fu.calls k a1 a2 t286 t287 _ A4.out).mono ?_); rintro e w6 ⟨rfl, hb⟩; refine ⟨_, rfl, ?_⟩; refine ax3 (di.below (yg HI0) hb) (fw.trans (kz HK) (fw.of_below hb g none) (.inl rfl)) (af zm hb) ?_; clear HI0; clear HK; clear HB; intro HI0 HK HB; (try clear hb)) | ((with_reducible refine ag (f := 58) rfl ?_); refine df (some 13) rfl rfl Tryd.func58 (by kernel_rfl) rfl #[.pointer (some ⟨g, 0, none⟩), .int .u64 t286, .int .u8 t287] rfl ga ?_; (with_reducible refine (oq.calls g s0_0 t286 t287 t288 t289 w0 _ ?side1 ?side2 A5.out).mono ?_); (case side1 => repeat (first | (with_reducible first | exact HI0.out | apply di.alloc | apply di.drewN | apply di.drew | apply di.Bb) | exact HI0.out)); (case side2 => repeat (first | (with_reducible first | exact HB.out | apply ji | apply iy | apply gy | refine jl ?_ (di.ge HI0.out)) | exact HB.out)); rintro e w7 ⟨rfl, hi, hb, hk⟩; refine ⟨_, rfl, ?_⟩; refine ax3 (fw.trans (kz HK) hk (.inl rfl)) hb hi ?_; clear HK; clear HB; clear HI0; intro HK HB HI0; (try clear hb)))
 go_ret; exact ⟨er, by repeat (first | (with_reducible first | exact HI0.out | apply di.alloc | apply di.drewN | apply di.drew | apply di.Bb) | exact HI0.out), by repeat (first | (with_reducible first | exact HB.out | apply ji | apply iy | apply gy | refine jl ?_ (di.ge HI0.out)) | exact HB.out), by repeat (first | (with_reducible first | exact HK.out | apply fw.set_ | apply xy | apply xh | apply xu) | exact HK.out)⟩

/-! ### mo: function 42 -/
def mo.f (k : Nat)  (a1 : Int) (a2 : Int) : Option (Int) := (fu.f k a1 a2).bind fun bt290 => ((l6.f bt290.1 bt290.2).bind fun t292 => (some t292))
theorem mo.mono : ∀ a0 a1 k, LeO (mo.f k a0 a1) (mo.f (k + 1) a0 a1) := by
 intro a0 a1 k
 unfold mo.f
 repeat' with_reducible first | apply fu.mono | exact LeO.refl _ | exact LeO.none _ | refine LeO.ite ?_ ?_ | refine LeO.bind ?_ (fun _ => ?_)
set_option maxHeartbeats 8000000 in
set_option maxRecDepth 100000 in
theorem mo.calls (k : Nat)  (a1 : Int) (a2 : Int) (r : Int) (w : World) (h : mo.f k a1 a2 = some r) :
  Calls Tryd.prog 42 #[.pointer none, .int .u64 a1, .int .u64 a2] w fun e w' => e = .returned (.int .u64 r) ∧ Below w.heap.size w w' := by
 have HB := aa.mk (Below.refl w.heap.size w); have H : ((fu.f k a1 a2).bind fun bt290 => ((l6.f bt290.1 bt290.2).bind fun t292 => (some t292))) = some r := h; clear h; obtain ⟨⟨t290, t291⟩, A4, H⟩ := ob H; (try dsimp -simprocs only at H); obtain ⟨t292, A5, H⟩ := ob H; (try dsimp -simprocs only at H); obtain rfl := Option.some.inj H; go_enter Tryd.func42, Tryd.ntmps42
 go_wp2_with (first | ((with_reducible refine ag (f := 65) rfl ?_); refine df (some 10) rfl rfl Tryd.func65 (by kernel_rfl) rfl #[.int .u64 a1, .int .u64 a2] rfl ga ?_; (with_reducible refine (fu.calls k a1 a2 t290 t291 _ A4.out).mono ?_); rintro e w6 ⟨rfl, hb⟩; refine ⟨_, rfl, ?_⟩; refine ax1 (af bel hb) ?_; clear HB; intro HB; (try clear hb)) | ((with_reducible refine ag (f := 58) rfl ?_); refine df (some 13) rfl rfl Tryd.func58 (by kernel_rfl) rfl #[.pointer none, .int .u64 t290, .int .u8 t291] rfl ga ?_; (with_reducible refine (l6.calls  t290 t291 t292 _ A5.out).mono ?_); rintro e w' ⟨rfl, ⟨nd, rfl⟩⟩; refine ⟨_, rfl, ?_⟩))
 go_ret; exact ⟨er, bel⟩

end Go.Proofs.YtnjobojkoaknpaaDoor.F
