-- Written by a program of this seat's session (mkprint), out of the translation.
import Derived.Test.YtnjobojkoaknpaaDoorShort
import Derived.Test.YtnjobojkoaknpaaDoorFx0
import Derived.Test.YtnjobojkoaknpaaDoorFx10
namespace Go.Proofs.YtnjobojkoaknpaaDoor.F
open Go.RowKit Go.Proofs.YtnjobojkoaknpaaDoorW.PrintWords Go.Proofs.YtnjobojkoaknpaaDoorW.PrintLast Go.Proofs.YtnjobojkoaknpaaDoorW.PrintMore
attribute [local go_sem] uh uf vv vw qw qp tu ui   -- for this text's walks alone
set_option linter.unusedVariables false
set_option linter.unusedSimpArgs false

/-! ### bn: function 18 -/
mutual
def bn.j0 : Nat → Bool → Bool → List Int → Int → Bool → List Int → Int → Option (Bool × List Int × Int)
 | 0, _, _, _, _, _, _, _ => none
 | k + 1, x20, x459000, x459001, x459002, x460000, x460001, x460002 => if x20 = true then (some (false, ([] : List Int), 0)) else (if 0 ≤ (wrap64 ((x459001.length : Int) + (x460001.length : Int))) then (if (wrap64 ((x459001.length : Int) + (x460001.length : Int)) : Int).toNat ≤ 70368744177664 then (bn.l0 k (List.replicate (wrap64 ((x459001.length : Int) + (x460001.length : Int)) : Int).toNat 0) x459001 (x459001.length : Int) 0 x459000 x459001 x459002 x460000 x460001 x460002) else (none)) else (none))
def bn.l0 : Nat → List Int → List Int → Int → Int → Bool → List Int → Int → Bool → List Int → Int → Option (Bool × List Int × Int)
 | 0, _, _, _, _, _, _, _, _, _, _ => none
 | k + 1, x5, x31, x32, x33, x459000, x459001, x459002, x460000, x460001, x460002 => if x33 < x32 then (if 0 ≤ x33 then (if x33 < (x31.length : Int) then (bn.l1 k x5 x33 (rd x31 x33) 0 x31 x32 x33 x460001 (x460001.length : Int) 0 x459000 x459001 x459002 x460000 x460001 x460002) else (none)) else (none)) else ((dx.f k (x459000 != x460000) x5 (wrap64 (x459002 + x460002))).bind fun bt464 => (some (bt464.1, bt464.2.1, bt464.2.2)))
def bn.l1 : Nat → List Int → Int → Int → Int → List Int → Int → Int → List Int → Int → Int → Bool → List Int → Int → Bool → List Int → Int → Option (Bool × List Int × Int)
 | 0, _, _, _, _, _, _, _, _, _, _, _, _, _, _, _, _ => none
 | k + 1, x5, x6, x7, x8, x31, x32, x33, x39, x40, x41, x459000, x459001, x459002, x460000, x460001, x460002 => if x41 < x40 then (if 0 ≤ x41 then (if x41 < (x39.length : Int) then (if 0 ≤ (wrap64 (x6 + x41)) then (if (wrap64 (x6 + x41)) < (x5.length : Int) then (bn.l1 k (x5.set ((wrap64 (x6 + x41)) : Int).toNat ((IntKind.u64.wrap (x8 + (IntKind.u64.wrap ((IntKind.u64.wrap (rd x5 (wrap64 (x6 + x41)))) + (IntKind.u64.wrap ((IntKind.u64.wrap (x7)) * (IntKind.u64.wrap (rd x39 x41)))))))) % 4294967296)) x6 x7 ((IntKind.u64.wrap (x8 + (IntKind.u64.wrap ((IntKind.u64.wrap (rd x5 (wrap64 (x6 + x41)))) + (IntKind.u64.wrap ((IntKind.u64.wrap (x7)) * (IntKind.u64.wrap (rd x39 x41)))))))) / 4294967296) x31 x32 x33 x39 x40 (wrap64 (x41 + 1)) x459000 x459001 x459002 x460000 x460001 x460002) else (none)) else (none)) else (none)) else (none)) else (if 0 ≤ (wrap64 (x6 + (x460001.length : Int))) then (if (wrap64 (x6 + (x460001.length : Int))) < (x5.length : Int) then (bn.l0 k (x5.set ((wrap64 (x6 + (x460001.length : Int))) : Int).toNat ((x8) % 4294967296)) x31 x32 (wrap64 (x33 + 1)) x459000 x459001 x459002 x460000 x460001 x460002) else (none)) else (none))
end
def bn.f (k : Nat) (a0_0 : Bool) (l0_1 : List Int) (a0_2 : Int) (a1_0 : Bool) (l1_1 : List Int) (a1_2 : Int) : Option (Bool × List Int × Int) := if (l0_1.length : Int) = 0 then (bn.j0 k true a0_0 l0_1 a0_2 a1_0 l1_1 a1_2) else (bn.j0 k ((l1_1.length : Int) == 0) a0_0 l0_1 a0_2 a1_0 l1_1 a1_2)
theorem bn.jm : ∀ k, (∀ y0 y1 y2 y3 y4 y5 y6, LeO (bn.j0 k y0 y1 y2 y3 y4 y5 y6) (bn.j0 (k + 1) y0 y1 y2 y3 y4 y5 y6)) ∧ (∀ y0 y1 y2 y3 y4 y5 y6 y7 y8 y9, LeO (bn.l0 k y0 y1 y2 y3 y4 y5 y6 y7 y8 y9) (bn.l0 (k + 1) y0 y1 y2 y3 y4 y5 y6 y7 y8 y9)) ∧ (∀ y0 y1 y2 y3 y4 y5 y6 y7 y8 y9 y10 y11 y12 y13 y14 y15, LeO (bn.l1 k y0 y1 y2 y3 y4 y5 y6 y7 y8 y9 y10 y11 y12 y13 y14 y15) (bn.l1 (k + 1) y0 y1 y2 y3 y4 y5 y6 y7 y8 y9 y10 y11 y12 y13 y14 y15))
 | 0 => ⟨fun _ _ _ _ _ _ _ r h => by simp [bn.j0] at h, fun _ _ _ _ _ _ _ _ _ _ r h => by simp [bn.l0] at h, fun _ _ _ _ _ _ _ _ _ _ _ _ _ _ _ _ r h => by simp [bn.l1] at h⟩
 | k + 1 => by
  obtain ⟨ih0, ih1, ih2⟩ := bn.jm k
  refine ⟨?_, ?_, ?_⟩ <;> intros <;> (first | unfold bn.j0 | unfold bn.l0 | unfold bn.l1) <;>
   repeat' with_reducible first | apply ih0 | apply ih1 | apply ih2 | apply dx.mono | exact LeO.refl _ | exact LeO.none _ | refine LeO.ite ?_ ?_ | refine LeO.bind ?_ (fun _ => ?_)
theorem bn.mono : ∀ a0 a1 a2 a3 a4 a5 k, LeO (bn.f k a0 a1 a2 a3 a4 a5) (bn.f (k + 1) a0 a1 a2 a3 a4 a5) := by
 intro a0 a1 a2 a3 a4 a5 k; obtain ⟨ih0, ih1, ih2⟩ := bn.jm k
 unfold bn.f
 repeat' with_reducible first | apply ih0 | apply ih1 | apply ih2 | apply dx.mono | exact LeO.refl _ | exact LeO.none _ | refine LeO.ite ?_ ?_ | refine LeO.bind ?_ (fun _ => ?_)
set_option maxHeartbeats 8000000 in
set_option maxRecDepth 100000 in
theorem bn.calls (k : Nat) (a0_0 : Bool) (A0_1 : Option Addr) (c0_1 : Nat) (l0_1 : List Int) (a0_2 : Int) (a1_0 : Bool) (A1_1 : Option Addr) (c1_1 : Nat) (l1_1 : List Int) (a1_2 : Int) (r1 : Bool) (r2 : List Int) (r3 : Int) (w : World) (hr0_1 : Kd.C (Kd.int .u32) w A0_1 l0_1.length l0_1) (hc0_1 : l0_1.length ≤ c0_1) (hr1_1 : Kd.C (Kd.int .u32) w A1_1 l1_1.length l1_1) (hc1_1 : l1_1.length ≤ c1_1) (hT : lw w) (h : bn.f k a0_0 l0_1 a0_2 a1_0 l1_1 a1_2 = some (r1, r2, r3)) :
  Calls Tryd.prog 18 #[.agg #[.bool a0_0, .slice A0_1 l0_1.length c0_1, .int .i64 a0_2], .agg #[.bool a1_0, .slice A1_1 l1_1.length c1_1, .int .i64 a1_2]] w fun e w' => ∃ v1_ : Value, e = .returned (.agg #[.bool r1, v1_, .int .i64 r3]) ∧ Kd.V (Kd.int .u32) 62 w' w.heap.size (fun k_ => (w.heap.size ≤ k_)) v1_ r2 ∧ Below w.heap.size w w' := by
 have hu29 := Tryd.underlying29; have HR0_1 := aa.mk hr0_1; have HC0_1 := aa.mk hc0_1; clear hr0_1 hc0_1; have HR1_1 := aa.mk hr1_1; have HC1_1 := aa.mk hc1_1; clear hr1_1 hc1_1; have HB := aa.mk (Below.refl w.heap.size w); have H : (if (l0_1.length : Int) = 0 then (bn.j0 k true a0_0 l0_1 a0_2 a1_0 l1_1 a1_2) else (bn.j0 k ((l1_1.length : Int) == 0) a0_0 l0_1 a0_2 a1_0 l1_1 a1_2)) = some (r1, r2, r3) := h; clear h; have HC3 := aa.mk H; clear H; go_enter Tryd.func18, Tryd.ntmps18
 go_upto_region 1 with (first | ((with_reducible refine bq (N := 2) rfl ?_); refine l5 (N := 2) (cs := #[.bool a0_0, .slice A0_1 l0_1.length c0_1, .int .i64 a0_2]) (t := 29) ?_; intro gb458 hg w4 hbox hb; refine ax4 (af bel hb) hbox ((ge hg : w.heap.size ≤ gb458)) ((ge hg : w.heap.size ≤ gb458)) ?_; clear HB; intro HB BK458 GW458 GE458; clear hb hbox hg) | ((with_reducible refine bq (N := 3) rfl ?_); refine l5 (N := 3) (cs := #[.bool a1_0, .slice A1_1 l1_1.length c1_1, .int .i64 a1_2]) (t := 29) ?_; intro gb459 hg w5 hbox hb; refine ax7 (bb BK458 hb) (af bes hb) hbox ((ge hg : w.heap.size ≤ gb459)) ((ge hg : w.heap.size ≤ gb459)) (nl hg BK458) (ng hg BK458) ?_; clear BK458; clear HB; intro BK458 HB BK459 GW459 GE459 NB458_459 NB459_458; clear hb hbox hg) | ((with_reducible refine bq (N := 4) rfl ?_); refine l5 (N := 4) (cs := #[.bool false, .slice none 0 0, .int .i64 0]) (t := 29) ?_; intro gb460 hg w6 hbox hb; refine ax10 (bb BK458 hb) (bb BK459 hb) (af bes hb) hbox ((ge hg : w.heap.size ≤ gb460)) ((ge hg : w.heap.size ≤ gb460)) (nl hg BK458) (ng hg BK458) (nl hg BK459) (ng hg BK459) ?_; clear BK458; clear BK459; clear HB; intro BK458 BK459 HB BK460 GW460 GE460 NB458_460 NB460_458 NB459_460 NB460_459; clear hb hbox hg))
 (try simp only [Act.put, sa0, sa1, sa2])
 go_cut [20] (fun v20 wc => ∃ (kq : Nat) (x20_2 : Bool), v20 = .bool x20_2 ∧ aa (bn.j0 kq x20_2 a0_0 l0_1 a0_2 a1_0 l1_1 a1_2 = some (r1, r2, r3)) ∧ aa (kq ≤ k) ∧ aa (wc.heap[gb458]? = some (.cells #[.bool a0_0, (.slice A0_1 l0_1.length c0_1), .int .i64 a0_2] 29 (0, 0))) ∧ aa (wc.heap[gb459]? = some (.cells #[.bool a1_0, (.slice A1_1 l1_1.length c1_1), .int .i64 a1_2] 29 (0, 0))) ∧ aa (wc.heap[gb460]? = some (.cells #[.bool false, (.slice none 0 0), .int .i64 0] 29 (0, 0))) ∧ aa (Below w.heap.size w wc))
 case first =>
  have H := HC3.out; clear HC3
  by_cases c7 : (l0_1.length : Int) = 0
  ·
   rw [if_pos c7] at H; have c7b0 := beq_iff_eq.mpr c7; have c7b1 := bne_eq_false_iff_eq.mpr c7; clear c7
   (first | rw [c7b0] | (simp only [jw, l8]; rw [c7b0]) | skip)
   have H' := aa.mk H; clear H; have hnb8 := NB458_459.out; have hnc8 := NB459_458.out; have hnb9 := NB458_460.out; have hnc9 := NB460_458.out; have ⟨_, _⟩ := cf BK458 0 rfl; have ⟨_, _⟩ := cf BK458 1 rfl; have ⟨_, _⟩ := cf BK458 2 rfl; go_wp2; go_meet
   case rel => exact ⟨_, (true), (by first | rfl | (simp; done) | (simp [*]; done)), H', ⟨by first | omega | exact Nat.le_refl _⟩, ⟨kb BK458⟩, ⟨kb BK459⟩, ⟨kb BK460⟩, ⟨bes⟩⟩
  ·
   rw [if_neg c7] at H; have c7b0 := beq_eq_false_iff_ne.mpr c7; have c7b1 := bne_iff_ne.mpr c7; have c7b2 : ¬ (l0_1 = []) := fun h_ => c7 (by rw [h_]; rfl)
   (first | rw [c7b0] | (simp only [jw, l8]; rw [c7b0]) | skip)
   have H' := aa.mk H; clear H; have hnb11 := NB458_459.out; have hnc11 := NB459_458.out; have hnb12 := NB458_460.out; have hnc12 := NB460_458.out; have ⟨_, _⟩ := cf BK458 0 rfl; have ⟨_, _⟩ := cf BK458 1 rfl; have ⟨_, _⟩ := cf BK458 2 rfl; have hnb14 := NB459_460.out; have hnc14 := NB460_459.out; have ⟨_, _⟩ := cf BK459 0 rfl; have ⟨_, _⟩ := cf BK459 1 rfl; have ⟨_, _⟩ := cf BK459 2 rfl; go_wp2; go_meet
   case rel => exact ⟨_, (((l1_1.length : Int) == 0)), (by first | rfl | (simp; done) | (simp [*]; done)), H', ⟨by first | omega | exact Nat.le_refl _⟩, ⟨kb BK458⟩, ⟨kb BK459⟩, ⟨kb BK460⟩, ⟨bes⟩⟩
 case rest =>
  clear HC3
  obtain ⟨kq, x20_2, rfl, HA, HJ2, BK458, BK459, BK460, HB⟩ := hcut; cases kq with
  | zero => exact absurd HA.out (by simp [bn.j0])
  | succ kj2 =>
   have H := HA.out; clear HA; simp only [bn.j0] at H
   by_cases c16 : x20_2 = true
   ·
    subst c16; rw [if_pos rfl] at H; simp only [Option.some.injEq, Prod.mk.injEq] at H; obtain ⟨rfl, rfl, rfl⟩ := H; have hnb17 := NB460_458.out; have hnc17 := NB458_460.out; have hnb18 := NB460_459.out; have hnc18 := NB459_460.out; have ⟨_, _⟩ := cf BK460 0 rfl; have ⟨_, _⟩ := cf BK460 1 rfl; have ⟨_, _⟩ := cf BK460 2 rfl; go_wp2; refine bodyPost_ret (results_cell_row rfl _ _ gb460 29 #[.bool false, .slice none 0 0, .int .i64 0] (0, 0) _ rfl (bp BK460) Tryd.underlying29 rfl (by kernel_rfl)) rfl ?_; exact ⟨_, er, Kd.Cy _ _ _ _ _, bes⟩
   ·
    replace c16 := Bool.eq_false_iff.mpr c16; subst c16; rw [if_neg (show ¬ (false = true) by decide)] at H; obtain ⟨ji20, hji20⟩ : ∃ j_ : Int, (wrap64 ((l0_1.length : Int) + (l1_1.length : Int))) = j_ := ⟨_, rfl⟩; replace H : (if 0 ≤ (ji20) then (if (ji20 : Int).toNat ≤ 70368744177664 then (bn.l0 kj2 (List.replicate (ji20 : Int).toNat 0) l0_1 (l0_1.length : Int) 0 a0_0 l0_1 a0_2 a1_0 l1_1 a1_2) else (none)) else (none)) = some (r1, r2, r3) := by first | (rw [hji20] at H; exact H) | (simp only [hji20] at H ⊢; exact H)
    have hji20w : (IntKind.i64.wrap ((l0_1.length : Int) + (l1_1.length : Int))) = ji20 := (jw _).trans hji20
    by_cases c21 : 0 ≤ (ji20)
    rotate_left
    ·
     rw [if_neg c21] at H; exact absurd H (by simp)

    rw [if_pos c21] at H; have c21b0 := eq_true c21; have c21b1 := decide_eq_true c21; clear c21
    by_cases c22 : (ji20 : Int).toNat ≤ 70368744177664
    rotate_left
    ·
     rw [if_neg c22] at H; exact absurd H (by simp)
    rw [if_pos c22] at H; have c22b0 := eq_true c22; have c22b1 := decide_eq_true c22; clear c22; obtain ⟨y461, hy461⟩ : ∃ y_ : List Int, y_ = (List.replicate (ji20 : Int).toNat 0) := ⟨_, rfl⟩; replace H : (bn.l0 kj2 y461 l0_1 (l0_1.length : Int) 0 a0_0 l0_1 a0_2 a1_0 l1_1 a1_2) = some (r1, r2, r3) := by first | (rw [hy461]; with_reducible exact H) | (have H2_ := (Option.bind_some _ _).symm.trans H; rw [hy461]; with_reducible exact H2_) | (have H2_ := (Option.bind_some _ _).symm.trans H; with_reducible exact H2_) | with_reducible exact H | (rw [hy461]; exact H) | exact H
    have Ny461 := aa.mk hy461; clear hy461; have H' := aa.mk H; clear H; have hnb23 := NB458_459.out; have hnc23 := NB459_458.out; have hnb24 := NB458_460.out; have hnc24 := NB460_458.out; have ⟨_, _⟩ := cf BK458 0 rfl; have ⟨_, _⟩ := cf BK458 1 rfl; have ⟨_, _⟩ := cf BK458 2 rfl; have hnb26 := NB459_460.out; have hnc26 := NB460_459.out; have ⟨_, _⟩ := cf BK459 0 rfl; have ⟨_, _⟩ := cf BK459 1 rfl; have ⟨_, _⟩ := cf BK459 2 rfl
    go_wp2_with (first | ((with_reducible refine bq (N := 29) rfl ?_); refine Kd.R_make (Kd.int .u32) _ 62 rfl (N := 29) rfl 27 _ _ rfl ji20 rfl rfl Tryd.underlying27 (.int .u32 0) 4 xw rfl (by decide) (by omega) 0 (ok := fun _ => True) (okp := fun _ => True) rfl (fun _ hk => hk) trivial (of_decide_eq_true (by first | (with_reducible assumption) | assumption)) (Nat.le_trans (Nat.mul_le_mul_right _ (of_decide_eq_true (by first | (with_reducible assumption) | assumption) : ji20.toNat ≤ 70368744177664)) (by omega)) (Below.refl _ _) (Nat.le_refl _) ?_; intro v462 w28 ho29 hb hg_ hnew_; clear hg_ hnew_; (first | rw [← Ny461.out] at ho29 | (simp only [Int.reduceToNat] at ho29; rw [← Ny461.out] at ho29)); refine ax5 (Kd.pg (Kd.Cv (M := fun k_ => (w.heap.size ≤ k_)) ho29 (az bes) (fun k_ h_ => h_)) (az bes)) (bb BK458 hb) (bb BK459 hb) (bb BK460 hb) (af bes hb) ?_; clear BK458; clear BK459; clear BK460; clear HB; intro HO463 BK458 BK459 BK460 HB; clear hb ho29; have ⟨_, _⟩ := cf BK458 0 rfl; have ⟨_, _⟩ := cf BK458 1 rfl; have ⟨_, _⟩ := cf BK458 2 rfl))
    go_loopg [33] kj2 (fun kq v33 w' => ∃ (x5_2 : List Int) (x33_2 : Int), v33 = .int .i64 x33_2 ∧ aa (bn.l0 kq x5_2 l0_1 (l0_1.length : Int) x33_2 a0_0 l0_1 a0_2 a1_0 l1_1 a1_2 = some (r1, r2, r3)) ∧ aa (kq ≤ kj2) ∧ aa (Kd.R (Kd.int .u32) 62 w' w.heap.size (fun k_ => (w.heap.size ≤ k_)) v462 x5_2) ∧ aa (w'.heap[gb458]? = some (.cells #[.bool a0_0, (.slice A0_1 l0_1.length c0_1), .int .i64 a0_2] 29 (0, 0))) ∧ aa (w'.heap[gb459]? = some (.cells #[.bool a1_0, (.slice A1_1 l1_1.length c1_1), .int .i64 a1_2] 29 (0, 0))) ∧ aa (w'.heap[gb460]? = some (.cells #[.bool false, (.slice none 0 0), .int .i64 0] 29 (0, 0))) ∧ aa (Below w.heap.size w w'))
    case atStart => exact ⟨(y461), (0), (by first | rfl | (simp; done) | (simp [*]; done)), H', ⟨Nat.le_refl _⟩, ⟨by (with_reducible repeat (first | apply Kd.lq | apply Kd.lu | apply Kd.jy)); exact Kd.ku HO463.out (fun _ hk => hk.1)⟩, ⟨kb BK458⟩, ⟨kb BK459⟩, ⟨kb BK460⟩, ⟨bes⟩⟩
    case round =>
     clear H'
     obtain ⟨x5_2, x33_2, rfl, HA, HK2, HO_5, BK458, BK459, BK460, HB⟩ := hrel; cases gk with
     | zero => exact absurd HA.out (by simp [bn.l0])
     | succ k2 =>
      have H := HA.out; clear HA; simp only [bn.l0] at H
      by_cases c31 : x33_2 < (l0_1.length : Int)
      ·
       rw [if_pos c31] at H; have c31b0 := decide_eq_true c31; clear c31
       by_cases c32 : 0 ≤ x33_2
       rotate_left
       ·
        rw [if_neg c32] at H; exact absurd H (by simp)
       rw [if_pos c32] at H; have c32b0 := decide_eq_true c32; clear c32
       by_cases c33 : x33_2 < (l0_1.length : Int)
       rotate_left
       ·
        rw [if_neg c33] at H; exact absurd H (by simp)
       rw [if_pos c33] at H; have c33b0 := decide_eq_true c33; clear c33; have H' := aa.mk H; clear H; have p469 : 0 ≤ (x33_2 : Int) := of_decide_eq_true (by first | (with_reducible assumption) | assumption); have q469 : x33_2 < (l0_1.length : Int) := of_decide_eq_true (by first | (with_reducible assumption) | assumption); obtain ⟨ad469, e469, hx469_0⟩ := Kd.lc HR0_1.out x33_2 p469 q469; cases e469; replace hx469_0 := (HB.out.cell (World.block_lt_of_cell? w _ hx469_0)).trans hx469_0; replace p469 := eq_true p469; replace q469 := eq_true q469; have hnb34 := NB459_458.out; have hnc34 := NB458_459.out; have hnb35 := NB459_460.out; have hnc35 := NB460_459.out; have ⟨_, _⟩ := cf BK459 0 rfl; have ⟨_, _⟩ := cf BK459 1 rfl; have ⟨_, _⟩ := cf BK459 2 rfl; go_wp2
       go_loopg [8, 41] k2 (fun kq v8 v41 w' => ∃ (x5_3 : List Int) (x8_3 : Int) (x41_3 : Int), v8 = .int .u64 x8_3 ∧ v41 = .int .i64 x41_3 ∧ aa (bn.l1 kq x5_3 x33_2 (rd l0_1 x33_2) x8_3 l0_1 (l0_1.length : Int) x33_2 l1_1 (l1_1.length : Int) x41_3 a0_0 l0_1 a0_2 a1_0 l1_1 a1_2 = some (r1, r2, r3)) ∧ aa (kq ≤ k2) ∧ aa (Kd.R (Kd.int .u32) 62 w' w.heap.size (fun k_ => (w.heap.size ≤ k_)) v462 x5_3) ∧ aa (w'.heap[gb458]? = some (.cells #[.bool a0_0, (.slice (some ad469) l0_1.length c0_1), .int .i64 a0_2] 29 (0, 0))) ∧ aa (w'.heap[gb459]? = some (.cells #[.bool a1_0, (.slice A1_1 l1_1.length c1_1), .int .i64 a1_2] 29 (0, 0))) ∧ aa (w'.heap[gb460]? = some (.cells #[.bool false, (.slice none 0 0), .int .i64 0] 29 (0, 0))) ∧ aa (Below w.heap.size w w'))
       case atStart => exact ⟨(x5_2), (0), (0), (by first | rfl | (simp; done) | (simp [*]; done)), (by first | rfl | (simp; done) | (simp [*]; done)), H', ⟨Nat.le_refl _⟩, ⟨kr HO_5⟩, ⟨kb BK458⟩, ⟨kb BK459⟩, ⟨kb BK460⟩, ⟨bes⟩⟩
       case round =>
        clear H'
        obtain ⟨x5_3, x8_3, x41_3, rfl, rfl, HA, HK3, HO_5, BK458, BK459, BK460, HB⟩ := hrel; cases gk with
        | zero => exact absurd HA.out (by simp [bn.l1])
        | succ k3 =>
         have H := HA.out; clear HA; simp only [bn.l1] at H
         by_cases c37 : x41_3 < (l1_1.length : Int)
         ·
          rw [if_pos c37] at H; have c37b0 := decide_eq_true c37; clear c37
          by_cases c38 : 0 ≤ x41_3
          rotate_left
          ·
           rw [if_neg c38] at H; exact absurd H (by simp)
          rw [if_pos c38] at H; have c38b0 := decide_eq_true c38; clear c38
          by_cases c39 : x41_3 < (l1_1.length : Int)
          rotate_left
          ·
           rw [if_neg c39] at H; exact absurd H (by simp)
          rw [if_pos c39] at H; have c39b0 := decide_eq_true c39; clear c39; obtain ⟨ji40, hji40⟩ : ∃ j_ : Int, (wrap64 (x33_2 + x41_3)) = j_ := ⟨_, rfl⟩; replace H : (if 0 ≤ (ji40) then (if (ji40) < (x5_3.length : Int) then (bn.l1 k3 (x5_3.set ((ji40) : Int).toNat ((IntKind.u64.wrap (x8_3 + (IntKind.u64.wrap ((IntKind.u64.wrap (rd x5_3 (ji40))) + (IntKind.u64.wrap ((IntKind.u64.wrap ((rd l0_1 x33_2))) * (IntKind.u64.wrap (rd l1_1 x41_3)))))))) % 4294967296)) x33_2 (rd l0_1 x33_2) ((IntKind.u64.wrap (x8_3 + (IntKind.u64.wrap ((IntKind.u64.wrap (rd x5_3 (ji40))) + (IntKind.u64.wrap ((IntKind.u64.wrap ((rd l0_1 x33_2))) * (IntKind.u64.wrap (rd l1_1 x41_3)))))))) / 4294967296) l0_1 (l0_1.length : Int) x33_2 l1_1 (l1_1.length : Int) (wrap64 (x41_3 + 1)) a0_0 l0_1 a0_2 a1_0 l1_1 a1_2) else (none)) else (none)) = some (r1, r2, r3) := by first | (rw [hji40] at H; exact H) | (simp only [hji40] at H ⊢; exact H)
          have hji40w : (IntKind.i64.wrap (x33_2 + x41_3)) = ji40 := (jw _).trans hji40
          by_cases c41 : 0 ≤ (ji40)
          rotate_left
          ·
           rw [if_neg c41] at H; exact absurd H (by simp)
          rw [if_pos c41] at H; have c41b0 := decide_eq_true c41; clear c41
          by_cases c42 : (ji40) < (x5_3.length : Int)
          rotate_left
          ·
           rw [if_neg c42] at H; exact absurd H (by simp)
          rw [if_pos c42] at H; have c42b0 := decide_eq_true c42; clear c42; obtain ⟨y472, hy472⟩ : ∃ y_ : List Int, y_ = (x5_3.set ((ji40) : Int).toNat ((IntKind.u64.wrap (x8_3 + (IntKind.u64.wrap ((IntKind.u64.wrap (rd x5_3 (ji40))) + (IntKind.u64.wrap ((IntKind.u64.wrap ((rd l0_1 x33_2))) * (IntKind.u64.wrap (rd l1_1 x41_3)))))))) % 4294967296)) := ⟨_, rfl⟩; replace H : (bn.l1 k3 y472 x33_2 (rd l0_1 x33_2) ((IntKind.u64.wrap (x8_3 + (IntKind.u64.wrap ((IntKind.u64.wrap (rd x5_3 (ji40))) + (IntKind.u64.wrap ((IntKind.u64.wrap ((rd l0_1 x33_2))) * (IntKind.u64.wrap (rd l1_1 x41_3)))))))) / 4294967296) l0_1 (l0_1.length : Int) x33_2 l1_1 (l1_1.length : Int) (wrap64 (x41_3 + 1)) a0_0 l0_1 a0_2 a1_0 l1_1 a1_2) = some (r1, r2, r3) := by first | (rw [hy472]; with_reducible exact H) | (have H2_ := (Option.bind_some _ _).symm.trans H; rw [hy472]; with_reducible exact H2_) | (have H2_ := (Option.bind_some _ _).symm.trans H; with_reducible exact H2_) | with_reducible exact H | (rw [hy472]; exact H) | exact H
          have Ny472 := aa.mk hy472; clear hy472; have H' := aa.mk H; clear H; have p470 : 0 ≤ (x41_3 : Int) := of_decide_eq_true (by first | (with_reducible assumption) | assumption); have q470 : x41_3 < (l1_1.length : Int) := of_decide_eq_true (by first | (with_reducible assumption) | assumption); obtain ⟨ad470, e470, hx470_0⟩ := Kd.lc HR1_1.out x41_3 p470 q470; cases e470; replace hx470_0 := (HB.out.cell (World.block_lt_of_cell? w _ hx470_0)).trans hx470_0; replace p470 := eq_true p470; replace q470 := eq_true q470; obtain ⟨Ao44, co44, eo44⟩ := Kd.mg HO_5.out; subst eo44; have p471 : 0 ≤ ((ji40) : Int) := of_decide_eq_true (by first | (with_reducible assumption) | assumption); have q471 : (ji40) < (x5_3.length : Int) := of_decide_eq_true (by first | (with_reducible assumption) | assumption); obtain ⟨ad471, e471, hx471_0⟩ := Kd.lc (Kd.jq HO_5.out).2.2 (ji40) p471 q471; cases e471; replace p471 := eq_true p471; replace q471 := eq_true q471; have p43 : 0 ≤ ((ji40) : Int) := of_decide_eq_true (by first | (with_reducible assumption) | assumption); have q43 : ((ji40) : Int) < ((x5_3.length : Int) : Int) := of_decide_eq_true (by first | (with_reducible assumption) | assumption); obtain ⟨go43, co43, eo43, gb43, gl43, cl43, HG43⟩ := Kd.Ca HO_5.out (by omega)
          (first | cases eo43 | (injection eo43 with ea_ en_ ec_; (first | subst ea_ | (injection ea_ with ea_; subst ea_)); subst ec_; clear en_))
          have GB43 := aa.mk gb43; have GG43 := aa.mk HG43; clear gb43 gl43 HG43
          (first | simp only [add_plain] at hx471_0 | skip)
          obtain ⟨hx43_0, hf43_0⟩ := Kd.zn 0 HO_5.out ((ji40) : Int) p43 q43; replace p43 := eq_true p43; replace q43 := eq_true q43; have HP45 := Kd.R_putg HO_5.out ((ji40) : Int) ((IntKind.u64.wrap (x8_3 + (IntKind.u64.wrap ((IntKind.u64.wrap (rd x5_3 (ji40))) + (IntKind.u64.wrap ((IntKind.u64.wrap ((rd l0_1 x33_2))) * (IntKind.u64.wrap (rd l1_1 x41_3)))))))) % 4294967296)
          go_wp2_with (first | ((with_reducible refine Ah (t := 62) (p := 69) rfl ?_); refine zz (t := 62) (p := 69) (v := ?vo_w46) (w1 := (wr.setCell ⟨go43, ((ji40) : Int).toNat, none⟩ (.int .u32 ((IntKind.u64.wrap (x8_3 + (IntKind.u64.wrap ((IntKind.u64.wrap (rd x5_3 (ji40))) + (IntKind.u64.wrap ((IntKind.u64.wrap ((rd l0_1 x33_2))) * (IntKind.u64.wrap (rd l1_1 x41_3)))))))) % 4294967296)))) ?hg ?ho ?hn ?hr ?_; (case ho => rfl); (case hg => rfl); (case hn => rfl); (case hr => first | (go_simp; done) | (go_simp; rfl)); intro w46 hw; have hg : wr.grownBy w46 (some go43) := (by rw [hw]; exact HP45.2); have hp_ : Kd.R (Kd.int .u32) 62 w46 w.heap.size (fun k_ => (w.heap.size ≤ k_)) (.slice (some ⟨go43, 0, none⟩) x5_3.length co44) y472 := (by rw [hw, Ny472.out]; exact HP45.1); clear HP45; refine ax5 hp_ (mi (g := gb458) (o := .cells #[.bool a0_0, .slice (some ad469) l0_1.length c0_1, .int .i64 a0_2] 29 (0, 0)) (kb BK458) hg (Kd.vg HO_5.out BK458.out (by decide))) (mi (g := gb459) (o := .cells #[.bool a1_0, .slice (some ad470) l1_1.length c1_1, .int .i64 a1_2] 29 (0, 0)) (kb BK459) hg (Kd.vg HO_5.out BK459.out (by decide))) (mi (g := gb460) (o := .cells #[.bool false, .slice none 0 0, .int .i64 0] 29 (0, 0)) (kb BK460) hg (Kd.vg HO_5.out BK460.out (by decide))) ((by rw [hw]; exact jl (HB.out) GB43.out : Below w.heap.size w w46)) ?_; clear HO_5; clear BK458; clear BK459; clear BK460; clear HB; intro HO_5 BK458 BK459 BK460 HB; clear hg hw hp_))
          go_roundg k3
          case measure => have := HJ2.out; have := HK2.out; have := HK3.out; omega
          case rel => exact ⟨(y472), ((IntKind.u64.wrap (x8_3 + (IntKind.u64.wrap ((IntKind.u64.wrap (rd x5_3 (ji40))) + (IntKind.u64.wrap ((IntKind.u64.wrap ((rd l0_1 x33_2))) * (IntKind.u64.wrap (rd l1_1 x41_3)))))))) / 4294967296), (wrap64 (x41_3 + 1)), (by first | rfl | (simp; done) | (simp only [← hji40] <;> (first | rfl | simp)) | (simp [*]; done)), (by first | rfl | (simp; done) | (simp [*]; done)), H', ⟨by have := HJ2.out; have := HK2.out; have := HK3.out; omega⟩, ⟨kr HO_5⟩, ⟨kb BK458⟩, ⟨kb BK459⟩, ⟨kb BK460⟩, ⟨bes⟩⟩
         ·
          rw [if_neg c37] at H; have c37b0 := decide_eq_false c37; clear c37; obtain ⟨ji47, hji47⟩ : ∃ j_ : Int, (wrap64 (x33_2 + (l1_1.length : Int))) = j_ := ⟨_, rfl⟩; replace H : (if 0 ≤ (ji47) then (if (ji47) < (x5_3.length : Int) then (bn.l0 k3 (x5_3.set ((ji47) : Int).toNat ((x8_3) % 4294967296)) l0_1 (l0_1.length : Int) (wrap64 (x33_2 + 1)) a0_0 l0_1 a0_2 a1_0 l1_1 a1_2) else (none)) else (none)) = some (r1, r2, r3) := by first | (rw [hji47] at H; exact H) | (simp only [hji47] at H ⊢; exact H)
          have hji47w : (IntKind.i64.wrap (x33_2 + (l1_1.length : Int))) = ji47 := (jw _).trans hji47
          by_cases c48 : 0 ≤ (ji47)
          rotate_left
          ·
           rw [if_neg c48] at H; exact absurd H (by simp)
          rw [if_pos c48] at H; have c48b0 := decide_eq_true c48; clear c48
          by_cases c49 : (ji47) < (x5_3.length : Int)
          rotate_left
          ·
           rw [if_neg c49] at H; exact absurd H (by simp)
          rw [if_pos c49] at H; have c49b0 := decide_eq_true c49; clear c49; obtain ⟨y473, hy473⟩ : ∃ y_ : List Int, y_ = (x5_3.set ((ji47) : Int).toNat ((x8_3) % 4294967296)) := ⟨_, rfl⟩; replace H : (bn.l0 k3 y473 l0_1 (l0_1.length : Int) (wrap64 (x33_2 + 1)) a0_0 l0_1 a0_2 a1_0 l1_1 a1_2) = some (r1, r2, r3) := by first | (rw [hy473]; with_reducible exact H) | (have H2_ := (Option.bind_some _ _).symm.trans H; rw [hy473]; with_reducible exact H2_) | (have H2_ := (Option.bind_some _ _).symm.trans H; with_reducible exact H2_) | with_reducible exact H | (rw [hy473]; exact H) | exact H
          have Ny473 := aa.mk hy473; clear hy473; have H' := aa.mk H; clear H; have hnb51 := NB459_458.out; have hnc51 := NB458_459.out; have hnb52 := NB459_460.out; have hnc52 := NB460_459.out; have ⟨_, _⟩ := cf BK459 0 rfl; have ⟨_, _⟩ := cf BK459 1 rfl; have ⟨_, _⟩ := cf BK459 2 rfl; have p50 : 0 ≤ ((ji47) : Int) := of_decide_eq_true (by first | (with_reducible assumption) | assumption); have q50 : ((ji47) : Int) < ((x5_3.length : Int) : Int) := of_decide_eq_true (by first | (with_reducible assumption) | assumption); obtain ⟨go50, co50, eo50, gb50, gl50, cl50, HG50⟩ := Kd.Ca HO_5.out (by omega)
          (first | cases eo50 | (injection eo50 with ea_ en_ ec_; (first | subst ea_ | (injection ea_ with ea_; subst ea_)); subst ec_; clear en_))
          have GB50 := aa.mk gb50; have GG50 := aa.mk HG50; clear gb50 gl50 HG50; obtain ⟨hx50_0, hf50_0⟩ := Kd.zn 0 HO_5.out ((ji47) : Int) p50 q50; replace p50 := eq_true p50; replace q50 := eq_true q50; have HP54 := Kd.R_putg HO_5.out ((ji47) : Int) ((x8_3) % 4294967296)
          go_wp2_with (first | ((with_reducible refine Ah (t := 62) (p := 79) rfl ?_); refine zz (t := 62) (p := 79) (v := ?vo_w55) (w1 := (wr.setCell ⟨go50, ((ji47) : Int).toNat, none⟩ (.int .u32 ((x8_3) % 4294967296)))) ?hg ?ho ?hn ?hr ?_; (case ho => rfl); (case hg => rfl); (case hn => rfl); (case hr => first | (go_simp; done) | (go_simp; rfl)); intro w55 hw; have hg : wr.grownBy w55 (some go50) := (by rw [hw]; exact HP54.2); have hp_ : Kd.R (Kd.int .u32) 62 w55 w.heap.size (fun k_ => (w.heap.size ≤ k_)) (.slice (some ⟨go50, 0, none⟩) x5_3.length co50) y473 := (by rw [hw, Ny473.out]; exact HP54.1); clear HP54; refine ax5 hp_ (mi (g := gb458) (o := .cells #[.bool a0_0, .slice (some ad469) l0_1.length c0_1, .int .i64 a0_2] 29 (0, 0)) (kb BK458) hg (Kd.vg HO_5.out BK458.out (by decide))) (mi (g := gb459) (o := .cells #[.bool a1_0, .slice A1_1 l1_1.length c1_1, .int .i64 a1_2] 29 (0, 0)) (kb BK459) hg (Kd.vg HO_5.out BK459.out (by decide))) (mi (g := gb460) (o := .cells #[.bool false, .slice none 0 0, .int .i64 0] 29 (0, 0)) (kb BK460) hg (Kd.vg HO_5.out BK460.out (by decide))) ((by rw [hw]; exact jl (HB.out) GB50.out : Below w.heap.size w w55)) ?_; clear HO_5; clear BK458; clear BK459; clear BK460; clear HB; intro HO_5 BK458 BK459 BK460 HB; clear hg hw hp_))
          go_roundg k3
          case measure => have := HJ2.out; have := HK2.out; have := HK3.out; omega
          case rel => exact ⟨(y473), (wrap64 (x33_2 + 1)), (by first | rfl | (simp; done) | (simp [*]; done)), H', ⟨by have := HJ2.out; have := HK2.out; have := HK3.out; omega⟩, ⟨kr HO_5⟩, ⟨kb BK458⟩, ⟨kb BK459⟩, ⟨kb BK460⟩, ⟨bes⟩⟩
      ·
       rw [if_neg c31] at H; have c31b0 := decide_eq_false c31; clear c31; obtain ⟨⟨t464, t465, t468⟩, A56, H⟩ := ob H; (try dsimp -simprocs only at H); simp only [Option.some.injEq, Prod.mk.injEq] at H; obtain ⟨rfl, rfl, rfl⟩ := H; have hnb57 := NB458_459.out; have hnc57 := NB459_458.out; have hnb58 := NB458_460.out; have hnc58 := NB460_458.out; have ⟨_, _⟩ := cf BK458 0 rfl; have ⟨_, _⟩ := cf BK458 1 rfl; have ⟨_, _⟩ := cf BK458 2 rfl; have hnb60 := NB459_460.out; have hnc60 := NB460_459.out; have ⟨_, _⟩ := cf BK459 0 rfl; have ⟨_, _⟩ := cf BK459 1 rfl; have ⟨_, _⟩ := cf BK459 2 rfl; obtain ⟨Ao62, co62, eo62⟩ := Kd.mg HO_5.out; subst eo62
       go_wp2_with (first | ((with_reducible refine ag (f := 32) rfl ?_); refine df (some 92) rfl rfl Tryd.func32 (by kernel_rfl) rfl #[.bool (a0_0 != a1_0), .slice Ao62 x5_2.length co62, .int .i64 (wrap64 (a0_2 + a1_2))] rfl ga ?_; (with_reducible refine (dx.calls k2 (a0_0 != a1_0) (fun k_ => some k_ = (.slice Ao62 x5_2.length co62 : Value).ownBlock) _ _ x5_2 (wrap64 (a0_2 + a1_2)) t464 t465 t468 _ ?side1 ?side2 A56.out).mono ?_); (case side1 => exact Kd.R_V (Kd.zo rfl (Kd.fe (Kd.fe (Kd.fe (HO_5.out) BK458.out (by decide)) BK459.out (by decide)) BK460.out (by decide)))); (case side2 => first | exact hT | exact lw.drewN hT _ | exact lw.drew hT | exact lw.below hT bes); rintro e w63 ⟨v466, rfl, ho0, hb⟩; refine ⟨_, rfl, ?_⟩; refine ax6 (Kd.cu (kr HO_5) hb) (Kd.mf (Kd.bu (ok' := fun k_ => (w.heap.size ≤ k_) ∧ k_ ≠ gb458 ∧ k_ ≠ gb459 ∧ k_ ≠ gb460) ho0 (fun k_ hk_ => ⟨Or.elim hk_ (fun hs_ => ((Kd.fe (Kd.fe (Kd.fe (HO_5.out) BK458.out (by decide)) BK459.out (by decide)) BK460.out (by decide)).1 k_ hs_.symm).1.1.1) (fun hn_ => (Nat.le_trans (az bes) hn_)), Or.elim hk_ (fun hs_ => ((Kd.fe (Kd.fe (Kd.fe (HO_5.out) BK458.out (by decide)) BK459.out (by decide)) BK460.out (by decide)).1 k_ hs_.symm).1.1.2) (fun hn_ => (fb BK458 k_ hn_)), Or.elim hk_ (fun hs_ => ((Kd.fe (Kd.fe (Kd.fe (HO_5.out) BK458.out (by decide)) BK459.out (by decide)) BK460.out (by decide)).1 k_ hs_.symm).1.2) (fun hn_ => (fb BK459 k_ hn_)), Or.elim hk_ (fun hs_ => ((Kd.fe (Kd.fe (Kd.fe (HO_5.out) BK458.out (by decide)) BK459.out (by decide)) BK460.out (by decide)).1 k_ hs_.symm).2) (fun hn_ => (fb BK460 k_ hn_))⟩)) (az bes)) (bb BK458 hb) (bb BK459 hb) (bb BK460 hb) (af bes hb) ?_; clear HO_5; clear BK458; clear BK459; clear BK460; clear HB; intro HO_5 HO467 BK458 BK459 BK460 HB; (try clear hb); (try clear ho0); have ⟨_, _⟩ := cf BK460 0 rfl; have ⟨_, _⟩ := cf BK460 1 rfl; have ⟨_, _⟩ := cf BK460 2 rfl; obtain ⟨Ao65, co65, eo65⟩ := Kd.kw HO467.out; subst eo65))
       refine bodyPost_ret (results_cell_row rfl _ _ gb460 29 #[.bool t464, .slice Ao65 t465.length co65, .int .i64 t468] (0, 0) _ rfl (bp BK460) Tryd.underlying29 rfl (by kernel_rfl)) rfl ?_; exact ⟨_, by first | rfl | (simp [gu, gp] <;> rfl) | (simp only [← hji20]; first | rfl | (simp [gu, gp] <;> rfl)) | (simp [*, gu, gp] <;> rfl), by (with_reducible repeat (first | apply Kd.fq | apply Kd.fo | apply Kd.gm)); exact Kd.bu (Kd.ja (p := ⟨gb460, 2, none⟩) (Kd.ja (p := ⟨gb460, 1, none⟩) (Kd.ja (p := ⟨gb460, 0, none⟩) (Kd.bu HO467.out (fun k_ hk => (⟨hk, hk.2.2.2⟩ : _ ∧ k_ ≠ gb460))) (fun _ hk => hk.2) (.bool t464)) (fun _ hk => hk.2) (.slice Ao65 t465.length co65)) (fun _ hk => hk.2) (.int .i64 t468)) (fun _ hk => hk.1.1), bes⟩
/-! ### sj: function 20 -/
def sj.f (a0_0 : Bool) (l0_1 : List Int) (a0_2 : Int) : Option (Bool × List Int × Int) := some (false, l0_1, a0_2)
set_option maxHeartbeats 8000000 in
set_option maxRecDepth 100000 in
theorem sj.calls (a0_0 : Bool) (P0_1_ : Nat → Prop) (A0_1 : Option Addr) (c0_1 : Nat) (l0_1 : List Int) (a0_2 : Int) (r1 : Bool) (r2 : List Int) (r3 : Int) (w : World) (hs0_1 : Kd.V (Kd.int .u32) 62 w w.heap.size (fun k_ => P0_1_ k_) (.slice A0_1 l0_1.length c0_1) l0_1) (h : sj.f a0_0 l0_1 a0_2 = some (r1, r2, r3)) :
  Calls Tryd.prog 20 #[.agg #[.bool a0_0, .slice A0_1 l0_1.length c0_1, .int .i64 a0_2]] w fun e w' => ∃ v1_ : Value, e = .returned (.agg #[.bool r1, v1_, .int .i64 r3]) ∧ Kd.V (Kd.int .u32) 62 w' w.heap.size (fun k_ => (P0_1_ k_ ∨ w.heap.size ≤ k_)) v1_ r2 ∧ Below w.heap.size w w' := by
 have hu29 := Tryd.underlying29; have HO0_1 := aa.mk (show Kd.V (Kd.int .u32) 62 w w.heap.size (fun k_ => (P0_1_ k_ ∨ w.heap.size ≤ k_)) (.slice A0_1 l0_1.length c0_1) l0_1 from Kd.bu hs0_1 (fun k_ hk => .inl hk)); have HB := aa.mk (Below.refl w.heap.size w); have H : (some (false, l0_1, a0_2)) = some (r1, r2, r3) := h; clear h; simp only [Option.some.injEq, Prod.mk.injEq] at H; obtain ⟨rfl, rfl, rfl⟩ := H; go_enter Tryd.func20, Tryd.ntmps20
 go_wp2_with (first | ((with_reducible refine bq (N := 1) rfl ?_); refine l5 (N := 1) (cs := #[.bool a0_0, .slice A0_1 l0_1.length c0_1, .int .i64 a0_2]) (t := 29) ?_; intro gb474 hg w2 hbox hb; refine ax5 (Kd.bg (Kd.ik (kv HO0_1) gb474 (Nat.le_of_eq hg.symm)) hb) (af bel hb) hbox ((ge hg : w.heap.size ≤ gb474)) ((ge hg : w.heap.size ≤ gb474)) ?_; clear HO0_1; clear HB; intro HO0_1 HB BK474 GW474 GE474; clear hb hbox hg) | ((with_reducible refine bq (N := 2) rfl ?_); refine l5 (N := 2) (cs := #[.bool false, .slice none 0 0, .int .i64 0]) (t := 29) ?_; intro gb475 hg w3 hbox hb; refine ax8 (Kd.bg (Kd.ik (kv HO0_1) gb475 (Nat.le_of_eq hg.symm)) hb) (bb BK474 hb) (af bes hb) hbox ((ge hg : w.heap.size ≤ gb475)) ((ge hg : w.heap.size ≤ gb475)) (nl hg BK474) (ng hg BK474) ?_; clear HO0_1; clear BK474; clear HB; intro HO0_1 BK474 HB BK475 GW475 GE475 NB474_475 NB475_474; clear hb hbox hg; have hnb4 := NB474_475.out; have hnc4 := NB475_474.out; have ⟨_, _⟩ := cf BK474 0 rfl; have ⟨_, _⟩ := cf BK474 1 rfl; have ⟨_, _⟩ := cf BK474 2 rfl; have ⟨_, _⟩ := cf BK475 0 rfl; have ⟨_, _⟩ := cf BK475 1 rfl; have ⟨_, _⟩ := cf BK475 2 rfl))
 refine bodyPost_ret (results_cell_row rfl _ _ gb475 29 #[.bool false, .slice A0_1 l0_1.length c0_1, .int .i64 a0_2] (0, 0) _ rfl (by (with_reducible repeat (first | refine jk ?_ _ | refine dz ?_ | refine jb ?_ _)); refine yz (cs := #[.bool false, .slice A0_1 l0_1.length c0_1, .int .i64 0]) ?_ 2 _ rfl; (with_reducible repeat (first | refine jk ?_ _ | refine dz ?_ | refine jb ?_ _)); refine yz (cs := #[.bool false, .slice none 0 0, .int .i64 0]) ?_ 1 _ rfl; (with_reducible repeat (first | refine jk ?_ _ | refine dz ?_ | refine jb ?_ _)); refine yz (cs := #[.bool false, .slice none 0 0, .int .i64 0]) ?_ 0 _ rfl; (with_reducible repeat (first | refine jk ?_ _ | refine dz ?_ | refine jb ?_ _)); refine yj ?_ NB475_474.out _; (with_reducible repeat (first | refine jk ?_ _ | refine dz ?_ | refine jb ?_ _)); exact BK475.out) Tryd.underlying29 rfl (by kernel_rfl)) rfl ?_; exact ⟨_, er, by (with_reducible repeat (first | apply Kd.fq | apply Kd.fo | apply Kd.gm)); exact Kd.bu (Kd.ja (p := ⟨gb475, 2, none⟩) (Kd.ja (p := ⟨gb475, 1, none⟩) (Kd.ja (p := ⟨gb475, 0, none⟩) (Kd.ja (p := ⟨gb474, 0, none⟩) (Kd.bu (Kd.bu HO0_1.out (fun k_ hk => (⟨hk, hk.1.2⟩ : _ ∧ k_ ≠ gb474))) (fun k_ hk => (⟨hk, hk.1.2⟩ : _ ∧ k_ ≠ gb475))) (fun _ hk => hk.1.2) (.bool false)) (fun _ hk => hk.2) (.bool false)) (fun _ hk => hk.2) (.slice A0_1 l0_1.length c0_1)) (fun _ hk => hk.2) (.int .i64 a0_2)) (fun _ hk => hk.1.1.1.1), bes⟩

/-! ### ug: function 21 -/
def ug.f (a0 : Int) (a1 : Int) (a2 : Bool) : Option (Bool) := if a2 = true then (if a1 > a0 then (some true) else (some false)) else (some (decide (a1 < a0)))
set_option maxHeartbeats 8000000 in
set_option maxRecDepth 100000 in
theorem ug.calls (a0 : Int) (a1 : Int) (a2 : Bool) (r : Bool) (w : World) (h : ug.f a0 a1 a2 = some r) :
  Calls Tryd.prog 21 #[.int .i64 a0, .int .i64 a1, .bool a2] w fun e w' => e = .returned (.bool r) ∧ dh w w' := by
 have H : (if a2 = true then (if a1 > a0 then (some true) else (some false)) else (some (decide (a1 < a0)))) = some r := h; clear h
 by_cases c4 : a2 = true
 rotate_left
 ·
  replace c4 := Bool.eq_false_iff.mpr c4; subst c4; rw [if_neg (show ¬ (false = true) by decide)] at H; obtain rfl := Option.some.inj H; go_enter Tryd.func21, Tryd.ntmps21; go_wp2; go_ret; exact ⟨by first | rfl | (simp; done) | (simp [*]; done), by repeat (first | exact dh.refl _ | apply dh.step)⟩

 subst c4; rw [if_pos rfl] at H
 by_cases c5 : a1 > a0
 rotate_left
 ·
  rw [if_neg c5] at H; have c5b0 : decide (a0 < a1) = false := decide_eq_false c5; clear c5; obtain rfl := Option.some.inj H; go_enter Tryd.func21, Tryd.ntmps21; go_wp2; go_ret; exact ⟨by first | rfl | (simp; done) | (simp [*]; done), by repeat (first | exact dh.refl _ | apply dh.step)⟩
 rw [if_pos c5] at H; have c5b0 : decide (a0 < a1) = true := decide_eq_true c5; clear c5; obtain rfl := Option.some.inj H; go_enter Tryd.func21, Tryd.ntmps21; go_wp2; go_ret; exact ⟨by first | rfl | (simp; done) | (simp [*]; done), by repeat (first | exact dh.refl _ | apply dh.step)⟩
/-! ### iq: function 67 -/
def iq.l0 : Nat → List Int → Int → Option (List Int)
 | 0, _, _ => none
 | k + 1, x0, x3 => if x3 > 0 then (if 0 ≤ (wrap64 (x3 - 1)) then (if (wrap64 (x3 - 1)) < (x0.length : Int) then (if (rd x0 (wrap64 (x3 - 1))) = 0 then (iq.l0 k x0 (wrap64 (x3 - 1))) else (if 0 ≤ x3 then (if x3 ≤ (x0.length : Int) then (some (x0.take (x3 : Int).toNat)) else (none)) else (none))) else (none)) else (none)) else (if 0 ≤ x3 then (if x3 ≤ (x0.length : Int) then (some (x0.take (x3 : Int).toNat)) else (none)) else (none))
def iq.f (k : Nat) (l0 : List Int) : Option (List Int) := iq.l0 k l0 (l0.length : Int)
theorem iq.jm : ∀ k, (∀ y0 y1, LeO (iq.l0 k y0 y1) (iq.l0 (k + 1) y0 y1))
 | 0 => fun _ _ r h => by simp [iq.l0] at h
 | k + 1 => by
  have ih0 := iq.jm k
  ·
   intro y0 y1
   unfold iq.l0
   repeat' with_reducible first | apply ih0 | exact LeO.refl _ | exact LeO.none _ | refine LeO.ite ?_ ?_ | refine LeO.bind ?_ (fun _ => ?_)
theorem iq.mono : ∀ a0 k, LeO (iq.f k a0) (iq.f (k + 1) a0) := by
 intro a0 k; have ih0 := iq.jm k
 unfold iq.f
 repeat' with_reducible first | apply ih0 | exact LeO.refl _ | exact LeO.none _ | refine LeO.ite ?_ ?_ | refine LeO.bind ?_ (fun _ => ?_)
set_option maxHeartbeats 8000000 in
set_option maxRecDepth 100000 in
theorem iq.calls (k : Nat) (P0_ : Nat → Prop) (A0 : Option Addr) (c0 : Nat) (l0 : List Int) (r : List Int) (w : World) (hs0 : Kd.V (Kd.int .u32) 62 w w.heap.size (fun k_ => P0_ k_) (.slice A0 l0.length c0) l0) (h : iq.f k l0 = some r) :
  Calls Tryd.prog 67 #[.slice A0 l0.length c0] w fun e w' => ∃ v0_ : Value, e = .returned (v0_) ∧ Kd.V (Kd.int .u32) 62 w' w.heap.size (fun k_ => (P0_ k_ ∨ w.heap.size ≤ k_)) v0_ r ∧ Below w.heap.size w w' := by
 have HO0 := aa.mk (show Kd.V (Kd.int .u32) 62 w w.heap.size (fun k_ => (P0_ k_ ∨ w.heap.size ≤ k_)) (.slice A0 l0.length c0) l0 from Kd.bu hs0 (fun k_ hk => .inl hk)); have HB := aa.mk (Below.refl w.heap.size w); have H : (iq.l0 k l0 (l0.length : Int)) = some r := h; clear h; have H' := aa.mk H; clear H; go_enter Tryd.func67, Tryd.ntmps67; go_wp2
 go_loopg [3] k (fun kq v3 w' => ∃ (x3_1 : Int), v3 = .int .i64 x3_1 ∧ aa (iq.l0 kq l0 x3_1 = some r) ∧ aa (kq ≤ k) ∧ aa (Kd.V (Kd.int .u32) 62 w' w.heap.size (fun k_ => (P0_ k_ ∨ w.heap.size ≤ k_)) (.slice A0 l0.length c0) l0) ∧ aa (Below w.heap.size w w'))
 case atStart => exact ⟨((l0.length : Int)), (by first | rfl | (simp; done) | (simp [*]; done)), H', ⟨Nat.le_refl _⟩, ⟨kv HO0⟩, ⟨bel⟩⟩
 case round =>
  clear H'; obtain ⟨x3_1, rfl, HA, HK1, HO_0, HB⟩ := hrel; cases gk with
  | zero => exact absurd HA.out (by simp [iq.l0])
  | succ k1 =>
   have H := HA.out; clear HA; simp only [iq.l0] at H
   by_cases c2 : x3_1 > 0
   ·
    rw [if_pos c2] at H; have c2b0 : decide (0 < x3_1) = true := decide_eq_true c2; clear c2; obtain ⟨ji3, hji3⟩ : ∃ j_ : Int, (wrap64 (x3_1 - 1)) = j_ := ⟨_, rfl⟩; replace H : (if 0 ≤ (ji3) then (if (ji3) < (l0.length : Int) then (if (rd l0 (ji3)) = 0 then (iq.l0 k1 l0 ji3) else (if 0 ≤ x3_1 then (if x3_1 ≤ (l0.length : Int) then (some (l0.take (x3_1 : Int).toNat)) else (none)) else (none))) else (none)) else (none)) = some r := by first | (rw [hji3] at H; exact H) | (simp only [hji3] at H ⊢; exact H)
    have hji3w : (IntKind.i64.wrap (x3_1 - 1)) = ji3 := (jw _).trans hji3
    by_cases c4 : 0 ≤ (ji3)
    rotate_left
    ·
     rw [if_neg c4] at H; exact absurd H (by simp)
    rw [if_pos c4] at H; have c4b0 : decide (0 ≤ (ji3)) = true := decide_eq_true c4; clear c4
    by_cases c5 : (ji3) < (l0.length : Int)
    rotate_left
    ·
     rw [if_neg c5] at H; exact absurd H (by simp)
    rw [if_pos c5] at H; have c5b0 : decide ((ji3) < (l0.length : Int)) = true := decide_eq_true c5; clear c5
    by_cases c6 : (rd l0 (ji3)) = 0
    ·
     rw [if_pos c6] at H; have c6b0 := beq_iff_eq.mpr c6; have c6b1 := bne_eq_false_iff_eq.mpr c6; clear c6; have H' := aa.mk H; clear H; have p476 : 0 ≤ ((ji3) : Int) := of_decide_eq_true (by first | (with_reducible assumption) | assumption); have q476 : (ji3) < (l0.length : Int) := of_decide_eq_true (by first | (with_reducible assumption) | assumption); obtain ⟨ad476, e476, hx476_0⟩ := Kd.lc (Kd.jv HO_0.out).2.2 (ji3) p476 q476; cases e476; replace p476 := eq_true p476; replace q476 := eq_true q476; go_wp2
     go_roundg k1
     case measure => have := HK1.out; omega
     case rel => exact ⟨(ji3), (by first | rfl | (simp; done) | (simp only [← hji3] <;> (first | rfl | simp)) | (simp [*]; done)), H', ⟨by have := HK1.out; omega⟩, ⟨kv HO_0⟩, ⟨bel⟩⟩
    ·
     rw [if_neg c6] at H; have c6b0 := beq_eq_false_iff_ne.mpr c6; have c6b1 := bne_iff_ne.mpr c6
     by_cases c7 : 0 ≤ x3_1
     rotate_left
     ·
      rw [if_neg c7] at H; exact absurd H (by simp)
     rw [if_pos c7] at H; have c7b0 := eq_true c7; have c7b1 : decide (0 ≤ x3_1) = true := decide_eq_true c7; clear c7
     by_cases c8 : x3_1 ≤ (l0.length : Int)
     rotate_left
     ·
      rw [if_neg c8] at H; exact absurd H (by simp)
     rw [if_pos c8] at H; have c8b0 := eq_true c8; have c8b1 := decide_eq_true c8; clear c8; obtain ⟨y477, hy477⟩ : ∃ y_ : List Int, y_ = (l0.take (x3_1 : Int).toNat) := ⟨_, rfl⟩; replace H : (some y477) = some r := by first | (rw [hy477]; with_reducible exact H) | (have H2_ := (Option.bind_some _ _).symm.trans H; rw [hy477]; with_reducible exact H2_) | (have H2_ := (Option.bind_some _ _).symm.trans H; with_reducible exact H2_) | with_reducible exact H | (rw [hy477]; exact H) | exact H
     have Ny477 := aa.mk hy477; clear hy477; obtain rfl := Option.some.inj H; have p476 : 0 ≤ ((ji3) : Int) := of_decide_eq_true (by first | (with_reducible assumption) | assumption); have q476 : (ji3) < (l0.length : Int) := of_decide_eq_true (by first | (with_reducible assumption) | assumption); obtain ⟨ad476, e476, hx476_0⟩ := Kd.lc (Kd.jv HO_0.out).2.2 (ji3) p476 q476; cases e476; replace p476 := eq_true p476; replace q476 := eq_true q476; have q9 : (x3_1 : Int) ≤ ((l0.length : Int) : Int) := of_decide_eq_true (by first | (with_reducible assumption) | assumption); obtain ⟨i09, hi09, _, hsz9, _⟩ := info_parts xw; have hroom9 : l0.length ≤ c0 := (Kd.jv HO_0.out).2.1; have hC9 : Kd.F (Kd.int .u32) _ _ (some ad476) l0.length l0 := (Kd.V_at (base := w.heap.size) HO_0.out).2.2; have hcut9 := cut_to (P := Tryd.prog) 27 62 .i64 Tryd.underlying27 hi09 (some ad476) l0.length c0 x3_1 (of_decide_eq_true (by first | (with_reducible assumption) | assumption)) q9 hroom9; have hr9 := Kd.F_take (m := (x3_1 : Int).toNat) hC9 (by omega); have hy9 : y477.length = (x3_1 : Int).toNat := (by rw [Ny477.out, List.length_take]; omega); rw [← Ny477.out] at hr9; rw [← hy9] at hcut9; have HO481 := aa.mk (show Kd.V (Kd.int .u32) 62 _ w.heap.size _ (.slice (some ad476) y477.length c0) y477 from Kd.V_mk (by omega) hr9); have HC481 := aa.mk (show y477.length ≤ c0 from by omega); clear hr9 hC9 hroom9 hi09 hsz9; have KY9 := aa.mk hy9; clear hy9; replace q9 := eq_true q9; go_wp2; go_ret; exact ⟨_, by first | rfl | (simp [gu, gp] <;> rfl) | (simp only [← hji3]; first | rfl | (simp [gu, gp] <;> rfl)) | (simp [*, gu, gp] <;> rfl), kv HO481, bel⟩
   ·
    rw [if_neg c2] at H; have c2b0 : decide (0 < x3_1) = false := decide_eq_false c2; clear c2
    by_cases c10 : 0 ≤ x3_1
    rotate_left
    ·
     rw [if_neg c10] at H; exact absurd H (by simp)

    rw [if_pos c10] at H; have c10b0 := eq_true c10; have c10b1 : decide (0 ≤ x3_1) = true := decide_eq_true c10; clear c10
    by_cases c11 : x3_1 ≤ (l0.length : Int)
    rotate_left
    ·
     rw [if_neg c11] at H; exact absurd H (by simp)
    rw [if_pos c11] at H; have c11b0 := eq_true c11; have c11b1 : decide (x3_1 ≤ (l0.length : Int)) = true := decide_eq_true c11; clear c11; obtain ⟨y482, hy482⟩ : ∃ y_ : List Int, y_ = (l0.take (x3_1 : Int).toNat) := ⟨_, rfl⟩; replace H : (some y482) = some r := by first | (rw [hy482]; with_reducible exact H) | (have H2_ := (Option.bind_some _ _).symm.trans H; rw [hy482]; with_reducible exact H2_) | (have H2_ := (Option.bind_some _ _).symm.trans H; with_reducible exact H2_) | with_reducible exact H | (rw [hy482]; exact H) | exact H
    have Ny482 := aa.mk hy482; clear hy482; obtain rfl := Option.some.inj H; have q12 : (x3_1 : Int) ≤ ((l0.length : Int) : Int) := of_decide_eq_true (by first | (with_reducible assumption) | assumption); obtain ⟨i012, hi012, _, hsz12, _⟩ := info_parts xw; have hroom12 : l0.length ≤ c0 := (Kd.jv HO_0.out).2.1; have hC12 : Kd.F (Kd.int .u32) _ _ A0 l0.length l0 := (Kd.V_at (base := w.heap.size) HO_0.out).2.2; have hcut12 := cut_to (P := Tryd.prog) 27 62 .i64 Tryd.underlying27 hi012 A0 l0.length c0 x3_1 (of_decide_eq_true (by first | (with_reducible assumption) | assumption)) q12 hroom12; have hr12 := Kd.F_take (m := (x3_1 : Int).toNat) hC12 (by omega); have hy12 : y482.length = (x3_1 : Int).toNat := (by rw [Ny482.out, List.length_take]; omega); rw [← Ny482.out] at hr12; rw [← hy12] at hcut12; have HO486 := aa.mk (show Kd.V (Kd.int .u32) 62 _ w.heap.size _ (.slice A0 y482.length c0) y482 from Kd.V_mk (by omega) hr12); have HC486 := aa.mk (show y482.length ≤ c0 from by omega); clear hr12 hC12 hroom12 hi012 hsz12; have KY12 := aa.mk hy12; clear hy12; replace q12 := eq_true q12; go_wp2; go_ret; exact ⟨_, er, kv HO486, bel⟩
/-! ### lv: function 68 -/
def lv.l0 : Nat → List Int → Int → Int → List Int → Int → Int → Option (List Int)
 | 0, _, _, _, _, _, _ => none
 | k + 1, x5, x6, x7, x21, x22, x23 => if x23 < x22 then (if 0 ≤ x23 then (if x23 < (x21.length : Int) then (if 0 ≤ x6 then (if x5.length < 35184372088832 then (if 0 ≤ (wrap64 (32 - x6)) then (lv.l0 k (x5 ++ [Go.bits .or .u32 (shl .u32 (rd x21 x23) x6) x7]) x6 ((shr .u64 (IntKind.u64.wrap (rd x21 x23)) (wrap64 (32 - x6))) % 4294967296) x21 x22 (wrap64 (x23 + 1))) else (none)) else (none)) else (none)) else (none)) else (none)) else (if x5.length < 35184372088832 then (some (x5 ++ [x7])) else (none))
def lv.f (k : Nat) (l0 : List Int) (a1 : Int) : Option (List Int) := if 0 ≤ (wrap64 (Int.tdiv a1 32)) then (if (wrap64 (Int.tdiv a1 32)) ≤ (wrap64 ((wrap64 ((wrap64 (Int.tdiv a1 32)) + (l0.length : Int))) + 1)) then (if (wrap64 ((wrap64 ((wrap64 (Int.tdiv a1 32)) + (l0.length : Int))) + 1) : Int).toNat ≤ 70368744177664 then (lv.l0 k (List.replicate (wrap64 (Int.tdiv a1 32) : Int).toNat 0) (Int.tmod a1 32) 0 l0 (l0.length : Int) 0) else (none)) else (none)) else (none)
theorem lv.jm : ∀ k, (∀ y0 y1 y2 y3 y4 y5, LeO (lv.l0 k y0 y1 y2 y3 y4 y5) (lv.l0 (k + 1) y0 y1 y2 y3 y4 y5))
 | 0 => fun _ _ _ _ _ _ r h => by simp [lv.l0] at h
 | k + 1 => by
  have ih0 := lv.jm k
  ·
   intro y0 y1 y2 y3 y4 y5
   unfold lv.l0
   repeat' with_reducible first | apply ih0 | exact LeO.refl _ | exact LeO.none _ | refine LeO.ite ?_ ?_ | refine LeO.bind ?_ (fun _ => ?_)
theorem lv.mono : ∀ a0 a1 k, LeO (lv.f k a0 a1) (lv.f (k + 1) a0 a1) := by
 intro a0 a1 k; have ih0 := lv.jm k
 unfold lv.f
 repeat' with_reducible first | apply ih0 | exact LeO.refl _ | exact LeO.none _ | refine LeO.ite ?_ ?_ | refine LeO.bind ?_ (fun _ => ?_)
set_option maxHeartbeats 8000000 in
set_option maxRecDepth 100000 in
theorem lv.calls (k : Nat) (A0 : Option Addr) (c0 : Nat) (l0 : List Int) (a1 : Int) (r : List Int) (w : World) (hr0 : Kd.C (Kd.int .u32) w A0 l0.length l0) (hc0 : l0.length ≤ c0) (h : lv.f k l0 a1 = some r) :
  Calls Tryd.prog 68 #[.slice A0 l0.length c0, .int .i64 a1] w fun e w' => ∃ v0_ : Value, e = .returned (v0_) ∧ Kd.R (Kd.int .u32) 62 w' w.heap.size (fun _ => True) v0_ r ∧ Below w.heap.size w w' := by
 have HR0 := aa.mk hr0; have HC0 := aa.mk hc0; clear hr0 hc0; have HB := aa.mk (Below.refl w.heap.size w); have H : (if 0 ≤ (wrap64 (Int.tdiv a1 32)) then (if (wrap64 (Int.tdiv a1 32)) ≤ (wrap64 ((wrap64 ((wrap64 (Int.tdiv a1 32)) + (l0.length : Int))) + 1)) then (if (wrap64 ((wrap64 ((wrap64 (Int.tdiv a1 32)) + (l0.length : Int))) + 1) : Int).toNat ≤ 70368744177664 then (lv.l0 k (List.replicate (wrap64 (Int.tdiv a1 32) : Int).toNat 0) (Int.tmod a1 32) 0 l0 (l0.length : Int) 0) else (none)) else (none)) else (none)) = some r := h; clear h; obtain ⟨jt0, hjt0⟩ : ∃ j_ : Int, (Int.tmod a1 32) = j_ := ⟨_, rfl⟩; replace H : (if 0 ≤ (wrap64 (Int.tdiv a1 32)) then (if (wrap64 (Int.tdiv a1 32)) ≤ (wrap64 ((wrap64 ((wrap64 (Int.tdiv a1 32)) + (l0.length : Int))) + 1)) then (if (wrap64 ((wrap64 ((wrap64 (Int.tdiv a1 32)) + (l0.length : Int))) + 1) : Int).toNat ≤ 70368744177664 then (lv.l0 k (List.replicate (wrap64 (Int.tdiv a1 32) : Int).toNat 0) jt0 0 l0 (l0.length : Int) 0) else (none)) else (none)) else (none)) = some r := by first | (rw [hjt0] at H; exact H) | (simp only [hjt0] at H ⊢; exact H)
 obtain ⟨ji3, hji3⟩ : ∃ j_ : Int, (wrap64 (Int.tdiv a1 32)) = j_ := ⟨_, rfl⟩; replace H : (if 0 ≤ (ji3) then (if (ji3) ≤ (wrap64 ((wrap64 ((ji3) + (l0.length : Int))) + 1)) then (if (wrap64 ((wrap64 ((ji3) + (l0.length : Int))) + 1) : Int).toNat ≤ 70368744177664 then (lv.l0 k (List.replicate (ji3 : Int).toNat 0) jt0 0 l0 (l0.length : Int) 0) else (none)) else (none)) else (none)) = some r := by first | (rw [hji3] at H; exact H) | (simp only [hji3] at H ⊢; exact H)
 have hji3w : (IntKind.i64.wrap (Int.tdiv a1 32)) = ji3 := (jw _).trans hji3
 by_cases c4 : 0 ≤ (ji3)
 rotate_left
 ·
  rw [if_neg c4] at H; exact absurd H (by simp)

 rw [if_pos c4] at H; have c4b0 := eq_true c4; have c4b1 : decide (0 ≤ (ji3)) = true := decide_eq_true c4; clear c4
 by_cases c5 : (ji3) ≤ (wrap64 ((wrap64 ((ji3) + (l0.length : Int))) + 1))
 rotate_left
 ·
  rw [if_neg c5] at H; exact absurd H (by simp)
 rw [if_pos c5] at H; have c5b0 := eq_true c5; have c5b1 : decide ((ji3) ≤ (wrap64 ((wrap64 ((ji3) + (l0.length : Int))) + 1))) = true := decide_eq_true c5
 by_cases c6 : (wrap64 ((wrap64 ((ji3) + (l0.length : Int))) + 1) : Int).toNat ≤ 70368744177664
 rotate_left
 ·
  rw [if_neg c6] at H; exact absurd H (by simp)
 rw [if_pos c6] at H; have c6b0 := eq_true c6; have c6b1 : decide ((wrap64 ((wrap64 ((ji3) + (l0.length : Int))) + 1) : Int).toNat ≤ 70368744177664) = true := decide_eq_true c6; obtain ⟨y487, hy487⟩ : ∃ y_ : List Int, y_ = (List.replicate (ji3 : Int).toNat 0) := ⟨_, rfl⟩; replace H : (lv.l0 k y487 jt0 0 l0 (l0.length : Int) 0) = some r := by first | (rw [hy487]; with_reducible exact H) | (have H2_ := (Option.bind_some _ _).symm.trans H; rw [hy487]; with_reducible exact H2_) | (have H2_ := (Option.bind_some _ _).symm.trans H; with_reducible exact H2_) | with_reducible exact H | (rw [hy487]; exact H) | exact H
 have Ny487 := aa.mk hy487; clear hy487; have H' := aa.mk H; clear H; go_enter Tryd.func68, Tryd.ntmps68
 go_wp2_with (first | ((with_reducible refine bq (N := 18) rfl ?_); refine Kd.R_makeC (Kd.int .u32) _ 62 rfl (N := 18) rfl 27 _ _ rfl ji3 (wrap64 ((wrap64 ((ji3) + (l0.length : Int))) + 1)) rfl rfl Tryd.underlying27 (.int .u32 0) 4 xw rfl (by decide) (by omega) 0 (ok := fun _ => True) (okp := fun _ => True) rfl (fun _ hk => hk) trivial (of_decide_eq_true (by first | (with_reducible assumption) | assumption)) (of_decide_eq_true (by first | (with_reducible assumption) | assumption)) (Nat.le_trans (Nat.mul_le_mul_right _ (of_decide_eq_true (by first | (with_reducible assumption) | assumption) : (wrap64 ((wrap64 ((ji3) + (l0.length : Int))) + 1)).toNat ≤ 70368744177664)) (by omega)) (Below.refl _ _) (Nat.le_refl _) ?_; intro v488 w7 ho8 hb hg_ hnew_; clear hg_ hnew_; (first | rw [← Ny487.out] at ho8 | (simp only [Int.reduceToNat] at ho8; rw [← Ny487.out] at ho8)); refine ax2 (Kd.pg ho8 (az bel)) (af bel hb) ?_; clear HB; intro HO489 HB; clear hb ho8))
 go_loopg [5, 7, 23] k (fun kq v5 v7 v23 w' => ∃ (x5_1 : List Int) (x7_1 : Int) (x23_1 : Int), v7 = .int .u32 x7_1 ∧ v23 = .int .i64 x23_1 ∧ aa (lv.l0 kq x5_1 jt0 x7_1 l0 (l0.length : Int) x23_1 = some r) ∧ aa (kq ≤ k) ∧ aa (Kd.R (Kd.int .u32) 62 w' w.heap.size (fun _ => True) v5 x5_1) ∧ aa (Below w.heap.size w w'))
 case atStart => exact ⟨(y487), (0), (0), (by first | rfl | (simp; done) | (simp [*]; done)), (by first | rfl | (simp; done) | (simp [*]; done)), H', ⟨Nat.le_refl _⟩, ⟨kr HO489⟩, ⟨bel⟩⟩
 case round =>
  clear H'
  obtain ⟨x5_1, x7_1, x23_1, rfl, rfl, HA, HK1, HO_5, HB⟩ := hrel; cases gk with
  | zero => exact absurd HA.out (by simp [lv.l0])
  | succ k1 =>
   have H := HA.out; clear HA; simp only [lv.l0] at H
   by_cases c9 : x23_1 < (l0.length : Int)
   ·
    rw [if_pos c9] at H; have c9b0 := decide_eq_true c9; clear c9
    by_cases c10 : 0 ≤ x23_1
    rotate_left
    ·
     rw [if_neg c10] at H; exact absurd H (by simp)
    rw [if_pos c10] at H; have c10b0 : decide (0 ≤ x23_1) = true := decide_eq_true c10; clear c10
    by_cases c11 : x23_1 < (l0.length : Int)
    rotate_left
    ·
     rw [if_neg c11] at H; exact absurd H (by simp)
    rw [if_pos c11] at H; have c11b0 : decide (x23_1 < (l0.length : Int)) = true := decide_eq_true c11; clear c11
    by_cases c13 : 0 ≤ jt0
    rotate_left
    ·
     rw [if_neg c13] at H; exact absurd H (by simp)
    rw [if_pos c13] at H; have c13b0 := eq_true c13; have c13b1 := decide_eq_true c13; clear c13; obtain ⟨ji14, hji14⟩ : ∃ j_ : Int, (shl .u32 (rd l0 x23_1) jt0) = j_ := ⟨_, rfl⟩; replace H : (if x5_1.length < 35184372088832 then (if 0 ≤ (wrap64 (32 - jt0)) then (lv.l0 k1 (x5_1 ++ [Go.bits .or .u32 (ji14) x7_1]) jt0 ((shr .u64 (IntKind.u64.wrap (rd l0 x23_1)) (wrap64 (32 - jt0))) % 4294967296) l0 (l0.length : Int) (wrap64 (x23_1 + 1))) else (none)) else (none)) = some r := by first | (rw [hji14] at H; exact H) | (simp only [hji14] at H ⊢; exact H)
    have hji14_ : (IntKind.u32.wrap ((rd l0 x23_1) * 2 ^ min jt0.toNat 32)) = ji14 := hji14; have hji14z : jt0 ≤ 32 → (IntKind.u32.wrap ((rd l0 x23_1) * 2 ^ jt0.toNat)) = ji14 := xn hji14
    by_cases c15 : x5_1.length < 35184372088832
    rotate_left
    ·
     rw [if_neg c15] at H; exact absurd H (by simp)
    rw [if_pos c15] at H; have LMc15 := aa.mk c15; clear c15; obtain ⟨y491, hy491⟩ : ∃ y_ : List Int, y_ = (x5_1 ++ [Go.bits .or .u32 (ji14) x7_1]) := ⟨_, rfl⟩; replace H : (if 0 ≤ (wrap64 (32 - jt0)) then (lv.l0 k1 y491 jt0 ((shr .u64 (IntKind.u64.wrap (rd l0 x23_1)) (wrap64 (32 - jt0))) % 4294967296) l0 (l0.length : Int) (wrap64 (x23_1 + 1))) else (none)) = some r := by first | (rw [hy491]; with_reducible exact H) | (have H2_ := (Option.bind_some _ _).symm.trans H; rw [hy491]; with_reducible exact H2_) | (have H2_ := (Option.bind_some _ _).symm.trans H; with_reducible exact H2_) | with_reducible exact H | (rw [hy491]; exact H) | exact H
    have Ny491 := aa.mk hy491; clear hy491; obtain ⟨ji16, hji16⟩ : ∃ j_ : Int, (wrap64 (32 - jt0)) = j_ := ⟨_, rfl⟩; replace H : (if 0 ≤ (ji16) then (lv.l0 k1 y491 jt0 ((shr .u64 (IntKind.u64.wrap (rd l0 x23_1)) (ji16)) % 4294967296) l0 (l0.length : Int) (wrap64 (x23_1 + 1))) else (none)) = some r := by first | (rw [hji16] at H; exact H) | (simp only [hji16] at H ⊢; exact H)
    have hji16w : (IntKind.i64.wrap (32 - jt0)) = ji16 := (jw _).trans hji16
    by_cases c17 : 0 ≤ (ji16)
    rotate_left
    ·
     rw [if_neg c17] at H; exact absurd H (by simp)
    rw [if_pos c17] at H; have c17b0 := eq_true c17; have c17b1 := decide_eq_true c17; clear c17; obtain ⟨ji18, hji18⟩ : ∃ j_ : Int, (shr .u64 (IntKind.u64.wrap (rd l0 x23_1)) (ji16)) = j_ := ⟨_, rfl⟩; replace H : (lv.l0 k1 y491 jt0 ((ji18) % 4294967296) l0 (l0.length : Int) (wrap64 (x23_1 + 1))) = some r := by first | (rw [hji18] at H; exact H) | (simp only [hji18] at H ⊢; exact H)
    have hji18_ : ((IntKind.u64.wrap (rd l0 x23_1)) / 2 ^ min (ji16).toNat 64) = ji18 := hji18; have hji18z : (ji16) ≤ 64 → ((IntKind.u64.wrap (rd l0 x23_1)) / 2 ^ (ji16).toNat) = ji18 := yx hji18; have H' := aa.mk H; clear H; have p490 : 0 ≤ (x23_1 : Int) := of_decide_eq_true (by first | (with_reducible assumption) | assumption); have q490 : x23_1 < (l0.length : Int) := of_decide_eq_true (by first | (with_reducible assumption) | assumption); obtain ⟨ad490, e490, hx490_0⟩ := Kd.lc HR0.out x23_1 p490 q490; cases e490; replace hx490_0 := (HB.out.cell (World.block_lt_of_cell? w _ hx490_0)).trans hx490_0; replace p490 := eq_true p490; replace q490 := eq_true q490
    go_wp2_with (first | ((with_reducible refine sw (b := .append) (xs := #[.tmp 27, .tmp 33]) rfl ?_); at_builtin; refine Kd.Ap (Kd.int .u32) (w0 := w) w.heap.size rfl (.tmp 27) (.tmp 33) 27 62 (.int .u32 0) 4 rfl Tryd.underlying27 xw rfl (by decide) (by omega) u5 x5_1 (Go.bits .or .u32 (ji14) x7_1) [.int .u32 (Go.bits .or .u32 (ji14) x7_1)] (fun _ => True) (fun _ => False) rfl rfl ?aP (fun _ hk => hk.elim) ?aF ?aO ?aB ?aS ?aL ?_; (case aP => exact rfl); (case aB => exact bel); (case aF => exact (fun _ _ => trivial)); (case aO => exact (kr HO_5)); (case aS => exact (az bel)); (case aL => have := LMc15.out; omega); intro v492 w19 ho hb hg hat; rw [← Ny491.out] at ho; refine ax2 hb ho ?_; clear HB; clear HO_5; intro HB HO493; clear ho hb hg hat))
    go_roundg k1
    case measure => have := HK1.out; omega
    case rel => exact ⟨(y491), ((ji18) % 4294967296), (wrap64 (x23_1 + 1)), (by first | rfl | (simp; done) | (simp only [← hji18] <;> (first | rfl | simp)) | (simp [*]; done)), (by first | rfl | (simp; done) | (simp [*]; done)), H', ⟨by have := HK1.out; omega⟩, ⟨kr HO493⟩, ⟨bel⟩⟩
   ·
    rw [if_neg c9] at H; have c9b0 := decide_eq_false c9; clear c9
    by_cases c20 : x5_1.length < 35184372088832
    rotate_left
    ·
     rw [if_neg c20] at H; exact absurd H (by simp)
    rw [if_pos c20] at H; have LMc20 := aa.mk c20; clear c20; obtain ⟨y494, hy494⟩ : ∃ y_ : List Int, y_ = (x5_1 ++ [x7_1]) := ⟨_, rfl⟩; replace H : (some y494) = some r := by first | (rw [hy494]; with_reducible exact H) | (have H2_ := (Option.bind_some _ _).symm.trans H; rw [hy494]; with_reducible exact H2_) | (have H2_ := (Option.bind_some _ _).symm.trans H; with_reducible exact H2_) | with_reducible exact H | (rw [hy494]; exact H) | exact H
    have Ny494 := aa.mk hy494; clear hy494; obtain rfl := Option.some.inj H
    go_wp2_with (first | ((with_reducible refine sw (b := .append) (xs := #[.tmp 42, .tmp 44]) rfl ?_); at_builtin; refine Kd.Ap (Kd.int .u32) (w0 := w) w.heap.size rfl (.tmp 42) (.tmp 44) 27 62 (.int .u32 0) 4 rfl Tryd.underlying27 xw rfl (by decide) (by omega) u5 x5_1 x7_1 [.int .u32 x7_1] (fun _ => True) (fun _ => False) rfl rfl ?aP (fun _ hk => hk.elim) ?aF ?aO ?aB ?aS ?aL ?_; (case aP => exact rfl); (case aB => exact bel); (case aF => exact (fun _ _ => trivial)); (case aO => exact (kr HO_5)); (case aS => exact (az bel)); (case aL => have := LMc20.out; omega); intro v495 w21 ho hb hg hat; rw [← Ny494.out] at ho; refine ax2 hb ho ?_; clear HB; clear HO_5; intro HB HO496; clear ho hb hg hat))
    go_ret; exact ⟨_, by first | rfl | (simp [gu, gp] <;> rfl) | (simp only [← hji3]; first | rfl | (simp [gu, gp] <;> rfl)) | (simp [*, gu, gp] <;> rfl), kr HO496, bel⟩
end Go.Proofs.YtnjobojkoaknpaaDoor.F
