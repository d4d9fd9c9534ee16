-- Written by a program of this seat's session (mkprint), out of the translation.
import Derived.Test.YtnjobojkoaknpaaDoorShort
import Derived.Test.YtnjobojkoaknpaaDoorFx0
import Derived.Test.YtnjobojkoaknpaaDoorFx2
import Derived.Test.YtnjobojkoaknpaaDoorFx8
import Derived.Test.YtnjobojkoaknpaaDoorFx9
import Derived.Test.YtnjobojkoaknpaaDoorFx10
import Derived.Test.YtnjobojkoaknpaaDoorFx11
namespace Go.Proofs.YtnjobojkoaknpaaDoor.F
open Go.RowKit Go.Proofs.YtnjobojkoaknpaaDoorW.PrintWords Go.Proofs.YtnjobojkoaknpaaDoorW.PrintLast Go.Proofs.YtnjobojkoaknpaaDoorW.PrintMore
attribute [local go_sem] max2_int min2_int max_two min_two max_three min_three max_four min_four   -- for this text's walks alone
set_option linter.unusedVariables false
set_option linter.unusedSimpArgs false

/-! ### gimballaw12_SolveBack: function 3 -/
mutual
def gimballaw12_SolveBack.j0 : Nat → Int → List Int → List Int → Bool → Bool → Option (Bool)
 | 0, _, _, _, _, _ => none
 | k + 1, x0, x1, x2, x3, x31 => if x31 = true then (some true) else ((mat_New.f x0 x0).bind fun bt479 => (gimballaw12_SolveBack.l0 k x0 x1 x2 x3 (bt479.2.2.2.length : Int) 0 bt479.1 bt479.2.1 bt479.2.2.1 bt479.2.2.2))
def gimballaw12_SolveBack.l0 : Nat → Int → List Int → List Int → Bool → Int → Int → Int → Int → Int → List Int → Option (Bool)
 | 0, _, _, _, _, _, _, _, _, _, _ => none
 | k + 1, x0, x1, x2, x3, x37, x38, x486000, x486001, x486002, x486003 => if x38 < x37 then (if (x1.length : Int) > 0 then (if (x1.length : Int) = 0 then (none) else (if 0 ≤ (Int.tmod x38 (x1.length : Int)) then (if (Int.tmod x38 (x1.length : Int)) < (x1.length : Int) then ((gimballaw12_SolveBack_1.f k (Go.bits .and .i64 (rd x1 (Int.tmod x38 (x1.length : Int))) 7)).bind fun t487 => (if 0 ≤ x38 then (if x38 < (x486003.length : Int) then (gimballaw12_SolveBack.l0 k x0 x1 x2 x3 x37 (wrap64 (x38 + 1)) x486000 x486001 x486002 (x486003.set (x38 : Int).toNat t487)) else (none)) else (none))) else (none)) else (none))) else (gimballaw12_SolveBack.l0 k x0 x1 x2 x3 x37 (wrap64 (x38 + 1)) x486000 x486001 x486002 x486003)) else (gimballaw12_SolveBack.l1 k x0 x2 x3 (([] : List Int)) 0 x486000 x486001 x486002 x486003)
def gimballaw12_SolveBack.l1 : Nat → Int → List Int → Bool → List Int → Int → Int → Int → Int → List Int → Option (Bool)
 | 0, _, _, _, _, _, _, _, _, _ => none
 | k + 1, x0, x2, x3, x12, x13, x486000, x486001, x486002, x486003 => if x13 < x0 then (if (x2.length : Int) > 0 then (if (x2.length : Int) = 0 then (none) else (if 0 ≤ (Int.tmod x13 (x2.length : Int)) then (if (Int.tmod x13 (x2.length : Int)) < (x2.length : Int) then ((gimballaw12_SolveBack_1.f k (wrap64 ((Go.bits .and .i64 (rd x2 (Int.tmod x13 (x2.length : Int))) 1023) - 500))).bind fun t493 => (if x12.length < 17592186044416 then (gimballaw12_SolveBack.l1 k x0 x2 x3 (x12 ++ [t493]) (wrap64 (x13 + 1)) x486000 x486001 x486002 x486003) else (none))) else (none)) else (none))) else ((gimballaw12_SolveBack_1.f k (-500)).bind fun t497 => (if x12.length < 17592186044416 then (gimballaw12_SolveBack.l1 k x0 x2 x3 (x12 ++ [t497]) (wrap64 (x13 + 1)) x486000 x486001 x486002 x486003) else (none)))) else ((solve_Trmv_nil.f k x486000 x486001 x486002 x486003 x3 true x12).bind fun bt501 => ((solve_Trsv_nil.f k x486000 x486001 x486002 x486003 x3 true bt501.1).bind fun bt505 => (if bt501.2 = 0 then (if bt505.2 = 0 then (gimballaw12_SolveBack.j3 k x12 bt505.1 ((bt505.1.length : Int) != x0)) else (gimballaw12_SolveBack.j3 k x12 bt505.1 true)) else (gimballaw12_SolveBack.j3 k x12 bt505.1 true))))
def gimballaw12_SolveBack.j3 : Nat → List Int → List Int → Bool → Option (Bool)
 | 0, _, _, _ => none
 | k + 1, x12, x17, x108 => if x108 = true then (some false) else (gimballaw12_SolveBack.l2 k x12 x17 (x17.length : Int) 0)
def gimballaw12_SolveBack.l2 : Nat → List Int → List Int → Int → Int → Option (Bool)
 | 0, _, _, _, _ => none
 | k + 1, x12, x17, x110, x111 => if x111 < x110 then (if 0 ≤ x111 then (if x111 < (x17.length : Int) then (if x111 < (x12.length : Int) then (if (rd x17 x111) = (rd x12 x111) then (gimballaw12_SolveBack.l2 k x12 x17 x110 (wrap64 (x111 + 1))) else (some false)) else (none)) else (none)) else (none)) else (some true)
end
def gimballaw12_SolveBack.f (k : Nat) (a0 : Int) (l1 : List Int) (l2 : List Int) (a3 : Bool) : Option (Bool) := (gimballaw12_head.f k).bind fun t478 => (if t478 = true then (if (l1.length : Int) > 100 then (gimballaw12_SolveBack.j0 k (Go.bits .and .i64 a0 7) l1 l2 a3 true) else (gimballaw12_SolveBack.j0 k (Go.bits .and .i64 a0 7) l1 l2 a3 (decide ((l2.length : Int) > 100)))) else (some false))
theorem gimballaw12_SolveBack.mono_l : ∀ k, (∀ y0 y1 y2 y3 y4, LeO (gimballaw12_SolveBack.j0 k y0 y1 y2 y3 y4) (gimballaw12_SolveBack.j0 (k + 1) y0 y1 y2 y3 y4)) ∧ (∀ y0 y1 y2 y3 y4 y5 y6 y7 y8 y9, LeO (gimballaw12_SolveBack.l0 k y0 y1 y2 y3 y4 y5 y6 y7 y8 y9) (gimballaw12_SolveBack.l0 (k + 1) y0 y1 y2 y3 y4 y5 y6 y7 y8 y9)) ∧ (∀ y0 y1 y2 y3 y4 y5 y6 y7 y8, LeO (gimballaw12_SolveBack.l1 k y0 y1 y2 y3 y4 y5 y6 y7 y8) (gimballaw12_SolveBack.l1 (k + 1) y0 y1 y2 y3 y4 y5 y6 y7 y8)) ∧ (∀ y0 y1 y2, LeO (gimballaw12_SolveBack.j3 k y0 y1 y2) (gimballaw12_SolveBack.j3 (k + 1) y0 y1 y2)) ∧ (∀ y0 y1 y2 y3, LeO (gimballaw12_SolveBack.l2 k y0 y1 y2 y3) (gimballaw12_SolveBack.l2 (k + 1) y0 y1 y2 y3))
 | 0 => ⟨fun _ _ _ _ _ r h => by simp [gimballaw12_SolveBack.j0] at h, fun _ _ _ _ _ _ _ _ _ _ r h => by simp [gimballaw12_SolveBack.l0] at h, fun _ _ _ _ _ _ _ _ _ r h => by simp [gimballaw12_SolveBack.l1] at h, fun _ _ _ r h => by simp [gimballaw12_SolveBack.j3] at h, fun _ _ _ _ r h => by simp [gimballaw12_SolveBack.l2] at h⟩
 | k + 1 => by
  obtain ⟨ih0, ih1, ih2, ih3, ih4⟩ := gimballaw12_SolveBack.mono_l k
  refine ⟨?_, ?_, ?_, ?_, ?_⟩ <;> intros <;> (first | unfold gimballaw12_SolveBack.j0 | unfold gimballaw12_SolveBack.l0 | unfold gimballaw12_SolveBack.l1 | unfold gimballaw12_SolveBack.j3 | unfold gimballaw12_SolveBack.l2) <;>
   repeat' with_reducible first | apply ih0 | apply ih1 | apply ih2 | apply ih3 | apply ih4 | apply gimballaw12_SolveBack_1.mono | apply gimballaw12_head.mono | apply solve_Trmv_nil.mono | apply solve_Trsv_nil.mono | exact LeO.refl _ | exact LeO.none _ | refine LeO.ite ?_ ?_ | refine LeO.bind ?_ (fun _ => ?_)
theorem gimballaw12_SolveBack.mono : ∀ a0 a1 a2 a3 k, LeO (gimballaw12_SolveBack.f k a0 a1 a2 a3) (gimballaw12_SolveBack.f (k + 1) a0 a1 a2 a3) := by
 intro a0 a1 a2 a3 k
 obtain ⟨ih0, ih1, ih2, ih3, ih4⟩ := gimballaw12_SolveBack.mono_l k
 unfold gimballaw12_SolveBack.f
 repeat' with_reducible first | apply ih0 | apply ih1 | apply ih2 | apply ih3 | apply ih4 | apply gimballaw12_SolveBack_1.mono | apply gimballaw12_head.mono | apply solve_Trmv_nil.mono | apply solve_Trsv_nil.mono | exact LeO.refl _ | exact LeO.none _ | refine LeO.ite ?_ ?_ | refine LeO.bind ?_ (fun _ => ?_)
def gimballaw12_SolveBack.T12 : Bool × List (List Nat × List Nat) := (true, [([], []), ([0], [0]), ([], []), ([], []), ([], []), ([], []), ([], []), ([6], [6]), ([5, 7], [5, 7]), ([4, 8], [4, 8]), ([9], [9]), ([10], [10]), ([3, 11], [3, 11]), ([1, 2, 0, 1, 2, 3, 4, 5, 6, 7, 8, 9, 10, 11, 12], [1, 2]), ([13, 12, 12, 0, 1, 2, 3, 4, 5, 6, 7, 8, 9, 10, 11, 12], [12, 13])])
def gimballaw12_SolveBack.B12 : List Nat := [0, 1, 0, 0, 0, 0, 0, 64, 224, 496, 1008, 2032, 4088, 8191, 16383]
theorem gimballaw12_SolveBack.tab12 : rtab .any (opsOf Tryd.f3 12) = gimballaw12_SolveBack.T12 := by kernel_rfl
theorem gimballaw12_SolveBack.bits12 : waitsOk gimballaw12_SolveBack.T12.2 gimballaw12_SolveBack.B12 = true := by kernel_rfl
def gimballaw12_SolveBack.T29 : Bool × List (List Nat × List Nat) := (true, [([], []), ([], []), ([0, 1], [0, 1]), ([2], [2]), ([], []), ([], []), ([4, 5], [4, 5]), ([6], [6]), ([3, 7], [3, 7])])
def gimballaw12_SolveBack.B29 : List Nat := [0, 0, 3, 7, 0, 0, 48, 112, 255]
theorem gimballaw12_SolveBack.tab29 : rtab .any (opsOf Tryd.f3 29) = gimballaw12_SolveBack.T29 := by kernel_rfl
theorem gimballaw12_SolveBack.bits29 : waitsOk gimballaw12_SolveBack.T29.2 gimballaw12_SolveBack.B29 = true := by kernel_rfl
set_option maxHeartbeats 8000000 in
set_option maxRecDepth 100000 in
theorem gimballaw12_SolveBack.calls (k : Nat) (a0 : Int) (A1 : Option Addr) (c1 : Nat) (l1 : List Int) (A2 : Option Addr) (c2 : Nat) (l2 : List Int) (a3 : Bool) (r : Bool) (w : World) (hr1 : Kd.C (Kd.int .i64) w A1 l1.length l1) (hc1 : l1.length ≤ c1) (hr2 : Kd.C (Kd.int .i64) w A2 l2.length l2) (hc2 : l2.length ≤ c2) (hT : TabW w) (hLW : r = true) (h : gimballaw12_SolveBack.f k a0 l1 l2 a3 = some r) :
  Calls Tryd.prog 3 #[.int .i64 a0, .slice A1 l1.length c1, .slice A2 l2.length c2, .bool a3] w fun e w' => e = .returned (.bool r) ∧ Below w.heap.size w w' := by
 have hu35 := Tryd.underlying35
 have HR1 := Aside0.mk hr1
 have HC1 := Aside0.mk hc1
 clear hr1 hc1
 have HR2 := Aside0.mk hr2
 have HC2 := Aside0.mk hc2
 clear hr2 hc2
 have HB := Aside0.mk (Below.refl w.heap.size w)
 have H : ((gimballaw12_head.f k).bind fun t478 => (if t478 = true then (if (l1.length : Int) > 100 then (gimballaw12_SolveBack.j0 k (Go.bits .and .i64 a0 7) l1 l2 a3 true) else (gimballaw12_SolveBack.j0 k (Go.bits .and .i64 a0 7) l1 l2 a3 (decide ((l2.length : Int) > 100)))) else (some false))) = some r := h
 clear h
 obtain ⟨t478, A50, H⟩ := Option.bind_eq_some_iff.mp H
 (try dsimp -simprocs only at H)
 have A5 := Aside0.mk A50
 clear A50
 by_cases c6 : t478 = true
 rotate_left
 ·
  replace c6 := Bool.eq_false_iff.mpr c6
  subst c6
  rw [if_neg (show ¬ (false = true) by decide)] at H
  rw [hLW] at H
  exact absurd H (by simp)

 subst c6
 rw [if_pos rfl] at H
 have HC7 := Aside0.mk H
 clear H
 go_enter Tryd.func3, Tryd.ntmps3
 go_upto_region 4 with (first | ((with_reducible refine gate_callee (f := 6) rfl ?_); refine goesL_ (some 20) rfl rfl Tryd.func6 (by kernel_rfl) rfl #[] rfl ga ?_; (with_reducible refine (gimballaw12_head.calls k  true _ A5.out).mono ?_); rintro e w8 ⟨rfl, hb⟩; refine ⟨_, rfl, ?_⟩; refine ax1 (below_step bel hb) ?_; clear HB; intro HB; (try clear hb)))
 (try simp only [Act.put, sa0, sa1, sa2])
 go_cut [31] (fun v31 wc => ∃ (kq : Nat) (x31_6 : Bool), v31 = .bool x31_6 ∧ Aside0 (gimballaw12_SolveBack.j0 kq (Go.bits .and .i64 a0 7) l1 l2 a3 x31_6 = some r) ∧ Aside0 (kq ≤ k) ∧ Aside0 (Below w.heap.size w wc))
 case first =>
  have H := HC7.out
  clear HC7
  by_cases c9 : (l1.length : Int) > 100
  rotate_left
  ·
   rw [if_neg c9] at H
   have c9b0 : decide (100 < (l1.length : Int)) = false := decide_eq_false c9
   have c9b1 : decide (100 < l1.length) = false := decide_eq_false (by omega)
   clear c9
   (first | rw [c9b0] | rw [c9b1] | (simp only [i64_w, i32_w]; first | rw [c9b0] | rw [c9b1]) | skip)
   have H' := Aside0.mk H
   clear H
   go_wp2
   go_meet
   case rel => exact ⟨_, (decide ((l2.length : Int) > 100)), (by first | rfl | (simp; done) | (simp [*]; done)), H', ⟨by first | omega | exact Nat.le_refl _⟩, ⟨bel⟩⟩
  rw [if_pos c9] at H
  have c9b0 : decide (100 < (l1.length : Int)) = true := decide_eq_true c9
  have c9b1 : decide (100 < l1.length) = true := decide_eq_true (by omega)
  clear c9
  (first | rw [c9b0] | rw [c9b1] | (simp only [i64_w, i32_w]; first | rw [c9b0] | rw [c9b1]) | skip)
  have H' := Aside0.mk H
  clear H
  go_wp2
  go_meet
  case rel => exact ⟨_, (true), (by first | rfl | (simp; done) | (simp [*]; done)), H', ⟨by first | omega | exact Nat.le_refl _⟩, ⟨bel⟩⟩
 case rest =>
  clear HC7
  try clear c1
  try clear c2
  try clear p2
  try clear c3
  try clear c6
  try clear c9
  try clear c9b0
  try clear c9b1
  obtain ⟨kq, x31_6, rfl, HA, HJ6, HB⟩ := hcut
  cases kq with
  | zero => exact absurd HA.out (by simp [gimballaw12_SolveBack.j0])
  | succ kj6 =>
   have H := HA.out
   clear HA
   simp only [gimballaw12_SolveBack.j0] at H
   by_cases c10 : x31_6 = true
   ·
    subst c10
    rw [if_pos rfl] at H
    obtain rfl := Option.some.inj H
    go_wp2
    go_ret
    exact ⟨er, bel⟩
   ·
    replace c10 := Bool.eq_false_iff.mpr c10
    subst c10
    rw [if_neg (show ¬ (false = true) by decide)] at H
    obtain ⟨⟨t479, t480, t481, t482⟩, A110, H⟩ := Option.bind_eq_some_iff.mp H
    (try dsimp -simprocs only at H)
    have A11 := Aside0.mk A110
    clear A110
    have H' := Aside0.mk H
    clear H
    go_wp2_with (first | ((with_reducible refine gate_callee (f := 10) rfl ?_); refine goesL_ (some 34) rfl rfl Tryd.func10 (by kernel_rfl) rfl #[.int .i64 (Go.bits .and .i64 a0 7), .int .i64 (Go.bits .and .i64 a0 7)] rfl ga ?_; (with_reducible refine (mat_New.calls (Go.bits .and .i64 a0 7) (Go.bits .and .i64 a0 7) t479 t480 t481 t482 _ A11.out).mono ?_); rintro e w12 ⟨v483, rfl, ho0, hb⟩; refine ⟨_, rfl, ?_⟩; refine ax2 (Kd.R_lower ho0 (below_size bel)) (below_step bel hb) ?_; clear HB; intro HO484 HB; (try clear hb); (try clear ho0)) | ((with_reducible refine gate_dst (N := 10) rfl ?_); refine gbox (N := 10) (cs := #[.int .i64 0, .int .i64 0, .int .i64 0, .slice none 0 0]) (t := 35) ?_; intro gb485 hg w13 hbox hb; refine ax5 (Kd.R_below (kr HO484) hb) (below_step bel hb) hbox ((ge hg : w.heap.size ≤ gb485)) ((ge hg : w.heap.size ≤ gb485)) ?_; clear HO484; clear HB; intro HO484 HB BK485 GW485 GE485; clear hb hbox hg; have hcz14_0 := bc BK485 0 rfl; have hcz14_1 := bc BK485 1 rfl; have hcz14_2 := bc BK485 2 rfl; have hcz14_3 := bc BK485 3 rfl; have hfz14_0 := blk_frozen BK485.out 0; have hfz14_1 := blk_frozen BK485.out 1; have hfz14_2 := blk_frozen BK485.out 2; have hfz14_3 := blk_frozen BK485.out 3; obtain ⟨Ao15, co15, eo15⟩ := Kd.R_slice HO484.out; subst eo15))
    go_loopg [38] kj6 (fun kq v38 w' => ∃ (x38_2 : Int) (x486003_2 : List Int) (u486003 : Value), v38 = .int .i64 x38_2 ∧ Aside0 (gimballaw12_SolveBack.l0 kq (Go.bits .and .i64 a0 7) l1 l2 a3 (t482.length : Int) x38_2 t479 t480 t481 x486003_2 = some r) ∧ Aside0 (kq ≤ kj6) ∧ Aside0 (Kd.R (Kd.int .u64) 24 w' w.heap.size (fun _ => True) u486003 x486003_2) ∧ Aside0 (w'.heap[gb485]? = some (.cells #[.int .i64 t479, .int .i64 t480, .int .i64 t481, u486003] 35 (0, 0))) ∧ Aside0 (Below w.heap.size w w'))
    case atStart => exact ⟨(0), (t482), (.slice Ao15 t482.length co15), (by first | rfl | (simp; done) | (simp [*]; done)), H', ⟨Nat.le_refl _⟩, ⟨by (with_reducible repeat (first | apply Kd.R_alloc | apply Kd.R_drewN | apply Kd.R_drew)); exact Kd.R_mono (Kd.R_far (p := ⟨gb485, 3, none⟩) (Kd.R_far (p := ⟨gb485, 2, none⟩) (Kd.R_far (p := ⟨gb485, 1, none⟩) (Kd.R_far (p := ⟨gb485, 0, none⟩) (Kd.R_types HO484.out BK485.out (by decide)) (fun _ hk => hk.2) (.int .i64 t479)) (fun _ hk => hk.2) (.int .i64 t480)) (fun _ hk => hk.2) (.int .i64 t481)) (fun _ hk => hk.2) (.slice Ao15 t482.length co15)) (fun _ hk => trivial)⟩, ⟨bp BK485⟩, ⟨bes⟩⟩
    case round =>
     clear H'
     try clear c1
     try clear c2
     try clear p2
     try clear c3
     try clear c6
     try clear c9
     try clear c9b0
     try clear c9b1
     try clear c10
     try clear hcz14_0
     try clear hcz14_1
     try clear hcz14_2
     try clear hcz14_3
     try clear hfz14_0
     try clear hfz14_1
     try clear hfz14_2
     try clear hfz14_3
     try clear p2
     obtain ⟨x38_2, x486003_2, u486003, rfl, HA, HK2, HO_486003, BK485, HB⟩ := hrel
     cases gk with
     | zero => exact absurd HA.out (by simp [gimballaw12_SolveBack.l0])
     | succ k2 =>
      have H := HA.out
      clear HA
      simp only [gimballaw12_SolveBack.l0] at H
      by_cases c16 : x38_2 < (t482.length : Int)
      ·
       rw [if_pos c16] at H
       have c16b0 : decide (x38_2 < (t482.length : Int)) = true := decide_eq_true c16
       clear c16
       by_cases c17 : (l1.length : Int) > 0
       rotate_left
       ·
        rw [if_neg c17] at H
        have c17b0 : decide (0 < (l1.length : Int)) = false := decide_eq_false c17
        have c17b1 : decide (0 < l1.length) = false := decide_eq_false (by omega)
        clear c17
        have H' := Aside0.mk H
        clear H
        go_wp2
        go_roundg k2
        case measure => have := HJ6.out; have := HK2.out; omega
        case rel => exact ⟨(wrap64 (x38_2 + 1)), (x486003_2), (u486003), (by first | rfl | (simp; done) | (simp [*]; done)), H', ⟨by have := HJ6.out; have := HK2.out; omega⟩, ⟨kr HO_486003⟩, ⟨kb BK485⟩, ⟨bes⟩⟩
       rw [if_pos c17] at H
       have c17b0 : decide (0 < (l1.length : Int)) = true := decide_eq_true c17
       have c17b1 : decide (0 < l1.length) = true := decide_eq_true (by omega)
       clear c17
       by_cases c18 : (l1.length : Int) = 0
       ·
        rw [if_pos c18] at H
        exact absurd H (by simp)
       ·
        rw [if_neg c18] at H
        have c18b0 : ((l1.length : Int) == 0) = false := beq_eq_false_iff_ne.mpr c18
        have c18b1 : ((l1.length : Int) != 0) = true := bne_iff_ne.mpr c18
        have c18b2 : ¬ (l1 = []) := fun h_ => c18 (by rw [h_]; rfl)
        obtain ⟨ji19, hji19⟩ : ∃ j_ : Int, (Int.tmod x38_2 (l1.length : Int)) = j_ := ⟨_, rfl⟩
        replace H : (if 0 ≤ (ji19) then (if (ji19) < (l1.length : Int) then ((gimballaw12_SolveBack_1.f k2 (Go.bits .and .i64 (rd l1 (ji19)) 7)).bind fun t487 => (if 0 ≤ x38_2 then (if x38_2 < (x486003_2.length : Int) then (gimballaw12_SolveBack.l0 k2 (Go.bits .and .i64 a0 7) l1 l2 a3 (t482.length : Int) (wrap64 (x38_2 + 1)) t479 t480 t481 (x486003_2.set (x38_2 : Int).toNat t487)) else (none)) else (none))) else (none)) else (none)) = some r := by first | (rw [hji19] at H; exact H) | (simp only [hji19] at H ⊢; exact H)
        by_cases c20 : 0 ≤ (ji19)
        rotate_left
        ·
         rw [if_neg c20] at H
         exact absurd H (by simp)
        rw [if_pos c20] at H
        have c20b0 : decide (0 ≤ (ji19)) = true := decide_eq_true c20
        clear c20
        by_cases c21 : (ji19) < (l1.length : Int)
        rotate_left
        ·
         rw [if_neg c21] at H
         exact absurd H (by simp)
        rw [if_pos c21] at H
        have c21b0 : decide ((ji19) < (l1.length : Int)) = true := decide_eq_true c21
        clear c21
        obtain ⟨t487, A220, H⟩ := Option.bind_eq_some_iff.mp H
        (try dsimp -simprocs only at H)
        have A22 := Aside0.mk A220
        clear A220
        by_cases c23 : 0 ≤ x38_2
        rotate_left
        ·
         rw [if_neg c23] at H
         exact absurd H (by simp)
        rw [if_pos c23] at H
        have c23b0 : decide (0 ≤ x38_2) = true := decide_eq_true c23
        clear c23
        by_cases c24 : x38_2 < (x486003_2.length : Int)
        rotate_left
        ·
         rw [if_neg c24] at H
         exact absurd H (by simp)
        rw [if_pos c24] at H
        have c24b0 : decide (x38_2 < (x486003_2.length : Int)) = true := decide_eq_true c24
        clear c24
        obtain ⟨y488, hy488⟩ : ∃ y_ : List Int, y_ = (x486003_2.set (x38_2 : Int).toNat t487) := ⟨_, rfl⟩
        replace H : (gimballaw12_SolveBack.l0 k2 (Go.bits .and .i64 a0 7) l1 l2 a3 (t482.length : Int) (wrap64 (x38_2 + 1)) t479 t480 t481 y488) = some r := by first | (rw [hy488]; with_reducible exact H) | (have H2_ := (Option.bind_some _ _).symm.trans H; rw [hy488]; with_reducible exact H2_) | (have H2_ := (Option.bind_some _ _).symm.trans H; with_reducible exact H2_) | with_reducible exact H | (rw [hy488]; exact H) | exact H
        have Ny488 := Aside0.mk hy488
        clear hy488
        have H' := Aside0.mk H
        clear H
        try go_wp2
        refine ax3 (Kd.R_drew HO_486003.out) (blk_drew BK485.out) (below_drew1 HB.out) ?_
        clear HO_486003 BK485 HB
        intro HO_486003 BK485 HB
        have p486 : 0 ≤ ((ji19) : Int) := of_decide_eq_true (by first | (with_reducible assumption) | assumption)
        have q486 : (ji19) < (l1.length : Int) := of_decide_eq_true (by first | (with_reducible assumption) | assumption)
        obtain ⟨ad486, e486, hx486_0⟩ := Kd.at_int HR1.out (ji19) p486 q486
        have hw486_0 := hx486_0
        cases e486
        replace hx486_0 := (HB.out.cell (World.block_lt_of_cell? w _ hx486_0)).trans hx486_0
        replace p486 := eq_true p486
        replace q486 := eq_true q486
        refine start_ (n := 15) (S := fun w' => w'.cell? ⟨gb485, 0, none⟩ = some (.int .i64 t479) ∧ w'.cell? ⟨gb485, 1, none⟩ = some (.int .i64 t480) ∧ w'.cell? ⟨gb485, 2, none⟩ = some (.int .i64 t481) ∧ w'.cell? ⟨gb485, 3, none⟩ = some (u486003) ∧ w'.cell? (ad486.add ((ji19)).toNat) = some (.int .i64 (rd l1 (ji19)))) (ds := [14]) #[false, false, false, false, false, false, false, false, false, false, false, false, false, false, false] (by kernel_rfl) rfl rfl ⟨bk BK485 0, bk BK485 1, bk BK485 2, bk BK485 3, ((HB.out.cell (World.block_lt_of_cell? w _ hw486_0)).trans hw486_0)⟩ (fun hHeld => ?_); refine with_tabW gimballaw12_SolveBack.tab12 gimballaw12_SolveBack.bits12 (fun HT_ HW_ => ?_)
        generalize wr.drew = w26 at HO_486003 BK485 HB hx486_0 hHeld ⊢
        refine pu 0 44 (lm 15 1) HT_ ?_
        refine pu 2 46 (lm 15 5) HT_ ?_
        refine pu 3 47 (lm 15 13) HT_ ?_
        refine pu 4 48 (lm 15 29) HT_ ?_
        refine pu 5 49 (lm 15 61) HT_ ?_
        refine pu 6 50 (lm 15 125) HT_ ?_
        refine pu 7 51 (lm 15 253) HT_ ?_
        refine pu 8 52 (lm 15 509) HT_ ?_
        refine pu 9 53 (lm 15 1021) HT_ ?_
        refine ta 1 45 (lm 15 1023) HT_ HW_ hHeld ?_
        refine ta 10 54 (lm 15 2047) HT_ HW_ hHeld ?_
        refine pu 11 55 (lm 15 4095) HT_ ?_
        refine on 12 (some 56) (lm 15 8191) HT_ (fun K hK => ?_)
        refine goesD_ Tryd.func7 (by kernel_rfl) rfl #[.int .i64 (Go.bits .and .i64 (rd l1 (ji19)) 7)] (by rfl) rfl rfl (by (try simp only [List.map_toArray, List.map_cons, List.map_nil]); first | done | (simp only [hji19]; rfl) | rfl | (simp only [List.length_drop, List.length_take]; rfl)) ?_
        with_reducible refine (gimballaw12_SolveBack_1.calls k2 (Go.bits .and .i64 (rd l1 (ji19)) 7) t487 _ ?side1 A22.out).mono ?_
        (case side1 => first | exact hT | exact TabW.drewN hT _ | exact TabW.drew hT | exact TabW.below hT bes)
        rintro e w27 ⟨rfl, hb⟩
        refine ⟨_, rfl, ?_⟩
        refine ax3 (Kd.R_below (kr HO_486003) hb) (bb BK485 hb) (below_step bes hb) ?_
        clear HO_486003 BK485 HB
        intro HO_486003 BK485 HB
        (try clear hb)
        (try clear hb2)
        (try clear hk)
        (try clear hi)
        have p25 : 0 ≤ (x38_2 : Int) := of_decide_eq_true (by first | (with_reducible assumption) | assumption)
        have q25 : (x38_2 : Int) < ((x486003_2.length : Int) : Int) := of_decide_eq_true (by first | (with_reducible assumption) | assumption)
        obtain ⟨go25, co25, eo25, gb25, gl25, cl25, HG25⟩ := Kd.R_form HO_486003.out (by omega)
        (first | cases eo25 | (injection eo25 with ea_ en_ ec_; (first | subst ea_ | (injection ea_ with ea_; subst ea_)); subst ec_; clear en_))
        have GB25 := Aside0.mk gb25
        have GG25 := Aside0.mk HG25
        clear gb25 gl25 HG25
        obtain ⟨hx25_0, hf25_0⟩ := Kd.R_celln 0 HO_486003.out (x38_2 : Int) p25 q25
        replace p25 := eq_true p25
        replace q25 := eq_true q25
        have HP28 := Kd.R_putn HO_486003.out (x38_2 : Int) t487
        rw [← Ny488.out] at HP28
        have HQ28 := Aside0.mk HP28
        clear HP28
        refine hK.out _ _ ⟨bk BK485 0, bk BK485 1, bk BK485 2, bk BK485 3, ((HB.out.cell (World.block_lt_of_cell? w _ hw486_0)).trans hw486_0)⟩ (fun hHeld => ?_)
        clear hK K
        refine no 56 ?_
        refine pu 13 57 (lm 15 16383) HT_ ?_
        refine last_ (i := 14) (N := none) #[true, true, true, true, true, true, true, true, true, true, true, true, true, true, true] rfl rfl (one_of HT_.out (by kernel_rfl)) (by decide) (fun K hK => ?_)
        refine skip_ (w1 := ?_) (by rfl) rfl ?_ ?_
        rotate_left
        ·
         go_simp
         rfl
        refine hK.out _ _ ?_
        clear hK K
        refine done_ (done_of HT_.out (by kernel_rfl)) ?_
        try go_wp2
        go_roundg k2
        case measure => have := HJ6.out; have := HK2.out; omega
        case rel => exact ⟨(wrap64 (x38_2 + 1)), (y488), (.slice (some ⟨go25, 0, none⟩) x486003_2.length co25), (by first | rfl | (simp; done) | (simp [*]; done)), H', ⟨by have := HJ6.out; have := HK2.out; omega⟩, ⟨kr HQ28⟩, ⟨by (with_reducible repeat (first | refine blk_drewN ?_ _ | refine blk_drew ?_ | refine blk_alloc ?_ _)); refine blk_far ?_ (by have h_ := Kd.R_ne HO_486003.out BK485.out (by decide); intro e_; exact h_ (by rw [e_]; rfl)) _; (with_reducible repeat (first | refine blk_drewN ?_ _ | refine blk_drew ?_ | refine blk_alloc ?_ _)); exact BK485.out⟩, ⟨bes⟩⟩
      ·
       rw [if_neg c16] at H
       have c16b0 : decide (x38_2 < (t482.length : Int)) = false := decide_eq_false c16
       clear c16
       obtain ⟨y489, hy489⟩ : ∃ y_ : List Int, y_ = (([] : List Int)) := ⟨_, rfl⟩
       replace H : (gimballaw12_SolveBack.l1 k2 (Go.bits .and .i64 a0 7) l2 a3 y489 0 t479 t480 t481 x486003_2) = some r := by first | (rw [hy489]; with_reducible exact H) | (have H2_ := (Option.bind_some _ _).symm.trans H; rw [hy489]; with_reducible exact H2_) | (have H2_ := (Option.bind_some _ _).symm.trans H; with_reducible exact H2_) | with_reducible exact H | (rw [hy489]; exact H) | exact H
       have Ny489 := Aside0.mk hy489
       clear hy489
       have H' := Aside0.mk H
       clear H
       go_wp2_with (first | ((with_reducible refine gate_dst (N := 59) rfl ?_); refine Kd.R_lit (Kd.int .u64) _ 24 ?hg (N := 59) ?hd (xs := ([] : List Int)) (inner := []) (ok := fun _ => True) (okp := fun _ => True) ?hr ?hp (fun _ hk => hk) trivial (Below.refl _ _) (Nat.le_refl _) (by simp) ?_; (case hd => rfl); (case hg => rfl); (case hr => first | (go_simp; done) | (go_simp; rfl)); (case hp => exact (Reps.none _ _)); intro v490 w29 ho30 hb hg_ hnew_; clear hg_ hnew_; (first | rw [← Ny489.out] at ho30 | (simp only [Int.reduceToNat] at ho30; rw [← Ny489.out] at ho30)); refine ax4 (Kd.R_elder' (kr HO_486003) (Kd.R_base ho30) hb) (Kd.R_lower (Kd.R_new' ho30 (Kd.R_lt (kr HO_486003))) (below_size bes)) (bb BK485 hb) (below_step bes hb) ?_; clear HO_486003; clear BK485; clear HB; intro HO_486003 HO491 BK485 HB; clear hb ho30))
       go_loopg [12, 13] k2 (fun kq v12 v13 w' => ∃ (x12_3 : List Int) (x13_3 : Int), v13 = .int .i64 x13_3 ∧ Aside0 (gimballaw12_SolveBack.l1 kq (Go.bits .and .i64 a0 7) l2 a3 x12_3 x13_3 t479 t480 t481 x486003_2 = some r) ∧ Aside0 (kq ≤ k2) ∧ Aside0 (Kd.R (Kd.int .u64) 24 w' w.heap.size (fun k_ => some k_ ≠ (u486003 : Value).ownBlock) v12 x12_3) ∧ Aside0 (Kd.R (Kd.int .u64) 24 w' w.heap.size (fun k_ => some k_ ≠ (v12 : Value).ownBlock) u486003 x486003_2) ∧ Aside0 (w'.heap[gb485]? = some (.cells #[.int .i64 t479, .int .i64 t480, .int .i64 t481, u486003] 35 (0, 0))) ∧ Aside0 (Below w.heap.size w w'))
       case atStart => exact ⟨(y489), (0), (by first | rfl | (simp; done) | (simp [*]; done)), H', ⟨Nat.le_refl _⟩, ⟨by (with_reducible repeat (first | apply Kd.R_alloc | apply Kd.R_drewN | apply Kd.R_drew)); exact Kd.R_mono HO491.out (fun _ hk => hk.2)⟩, ⟨by (with_reducible repeat (first | apply Kd.R_alloc | apply Kd.R_drewN | apply Kd.R_drew)); exact Kd.R_mono HO_486003.out (fun _ hk => hk.2)⟩, ⟨kb BK485⟩, ⟨bes⟩⟩
       case round =>
        clear H'
        try clear c1
        try clear c2
        try clear p2
        try clear q2
        try clear hx2
        try clear c3
        try clear p4
        try clear q4
        try clear hx4
        try clear c6
        try clear p6
        try clear c7
        try clear c9
        try clear c9b0
        try clear c9b1
        try clear c10
        try clear c16
        try clear c16b0
        try clear c17
        try clear c17b0
        try clear c17b1
        try clear c18
        try clear c18b0
        try clear c18b1
        try clear c18b2
        try clear c20
        try clear c20b0
        try clear c21
        try clear c21b0
        try clear c23
        try clear c23b0
        try clear c24
        try clear c24b0
        try clear p25
        try clear q25
        try clear hx25
        try clear hf25
        try clear hcz14_0
        try clear hcz14_1
        try clear hcz14_2
        try clear hcz14_3
        try clear hfz14_0
        try clear hfz14_1
        try clear hfz14_2
        try clear hfz14_3
        try clear hx25_0
        try clear hx486_0
        try clear p2
        try clear p25
        try clear p486
        try clear q25
        try clear q486
        obtain ⟨x12_3, x13_3, rfl, HA, HK3, HO_12, HO_486003, BK485, HB⟩ := hrel
        cases gk with
        | zero => exact absurd HA.out (by simp [gimballaw12_SolveBack.l1])
        | succ k3 =>
         have H := HA.out
         clear HA
         simp only [gimballaw12_SolveBack.l1] at H
         by_cases c31 : x13_3 < (Go.bits .and .i64 a0 7)
         ·
          rw [if_pos c31] at H
          have c31b0 : decide (x13_3 < (Go.bits .and .i64 a0 7)) = true := decide_eq_true c31
          clear c31
          by_cases c32 : (l2.length : Int) > 0
          ·
           rw [if_pos c32] at H
           have c32b0 : decide (0 < (l2.length : Int)) = true := decide_eq_true c32
           have c32b1 : decide (0 < l2.length) = true := decide_eq_true (by omega)
           clear c32
           by_cases c33 : (l2.length : Int) = 0
           ·
            rw [if_pos c33] at H
            exact absurd H (by simp)
           ·
            rw [if_neg c33] at H
            have c33b0 : ((l2.length : Int) == 0) = false := beq_eq_false_iff_ne.mpr c33
            have c33b1 : ((l2.length : Int) != 0) = true := bne_iff_ne.mpr c33
            have c33b2 : ¬ (l2 = []) := fun h_ => c33 (by rw [h_]; rfl)
            obtain ⟨ji34, hji34⟩ : ∃ j_ : Int, (Int.tmod x13_3 (l2.length : Int)) = j_ := ⟨_, rfl⟩
            replace H : (if 0 ≤ (ji34) then (if (ji34) < (l2.length : Int) then ((gimballaw12_SolveBack_1.f k3 (wrap64 ((Go.bits .and .i64 (rd l2 (ji34)) 1023) - 500))).bind fun t493 => (if x12_3.length < 17592186044416 then (gimballaw12_SolveBack.l1 k3 (Go.bits .and .i64 a0 7) l2 a3 (x12_3 ++ [t493]) (wrap64 (x13_3 + 1)) t479 t480 t481 x486003_2) else (none))) else (none)) else (none)) = some r := by first | (rw [hji34] at H; exact H) | (simp only [hji34] at H ⊢; exact H)
            by_cases c35 : 0 ≤ (ji34)
            rotate_left
            ·
             rw [if_neg c35] at H
             exact absurd H (by simp)
            rw [if_pos c35] at H
            have c35b0 : decide (0 ≤ (ji34)) = true := decide_eq_true c35
            clear c35
            by_cases c36 : (ji34) < (l2.length : Int)
            rotate_left
            ·
             rw [if_neg c36] at H
             exact absurd H (by simp)
            rw [if_pos c36] at H
            have c36b0 : decide ((ji34) < (l2.length : Int)) = true := decide_eq_true c36
            clear c36
            obtain ⟨t493, A370, H⟩ := Option.bind_eq_some_iff.mp H
            (try dsimp -simprocs only at H)
            have A37 := Aside0.mk A370
            clear A370
            by_cases c38 : x12_3.length < 17592186044416
            rotate_left
            ·
             rw [if_neg c38] at H
             exact absurd H (by simp)
            rw [if_pos c38] at H
            have LMc38 := Aside0.mk c38
            clear c38
            obtain ⟨y494, hy494⟩ : ∃ y_ : List Int, y_ = (x12_3 ++ [t493]) := ⟨_, rfl⟩
            replace H : (gimballaw12_SolveBack.l1 k3 (Go.bits .and .i64 a0 7) l2 a3 y494 (wrap64 (x13_3 + 1)) t479 t480 t481 x486003_2) = some r := by first | (rw [hy494]; with_reducible exact H) | (have H2_ := (Option.bind_some _ _).symm.trans H; rw [hy494]; with_reducible exact H2_) | (have H2_ := (Option.bind_some _ _).symm.trans H; with_reducible exact H2_) | with_reducible exact H | (rw [hy494]; exact H) | exact H
            have Ny494 := Aside0.mk hy494
            clear hy494
            have H' := Aside0.mk H
            clear H
            have p492 : 0 ≤ ((ji34) : Int) := of_decide_eq_true (by first | (with_reducible assumption) | assumption)
            have q492 : (ji34) < (l2.length : Int) := of_decide_eq_true (by first | (with_reducible assumption) | assumption)
            obtain ⟨ad492, e492, hx492_0⟩ := Kd.at_int HR2.out (ji34) p492 q492
            cases e492
            replace hx492_0 := (HB.out.cell (World.block_lt_of_cell? w _ hx492_0)).trans hx492_0
            replace p492 := eq_true p492
            replace q492 := eq_true q492
            go_wp2_with (first | (go_at_call 7; (with_reducible refine (gimballaw12_SolveBack_1.calls k3 (wrap64 ((Go.bits .and .i64 (rd l2 (ji34)) 1023) - 500)) t493 _ ?side1 A37.out).mono ?_); (case side1 => first | exact hT | exact TabW.drewN hT _ | exact TabW.drew hT | exact TabW.below hT bes); rintro e w39 ⟨rfl, hb⟩; refine ax4 (Kd.R_below (kr HO_12) hb) (Kd.R_below (kr HO_486003) hb) (bb BK485 hb) (below_step bes hb) ?_; clear HO_12; clear HO_486003; clear BK485; clear HB; intro HO_12 HO_486003 BK485 HB; (try clear hb)) | ((with_reducible refine gate_builtin (b := .append) (xs := #[.tmp 76, .tmp 81]) rfl ?_); at_builtin; refine Kd.R_append (Kd.int .u64) (w0 := w) w.heap.size rfl (.tmp 76) (.tmp 81) 33 24 (.int .u64 0) 8 rfl Tryd.underlying33 info24 rfl (by decide) (by omega) u12 x12_3 t493 [.int .u64 t493] (fun k_ => some k_ ≠ (u486003 : Value).ownBlock) (fun _ => False) rfl rfl ?aP (fun _ hk => hk.elim) ?aF ?aO ?aB ?aS ?aL ?_; (case aP => exact rfl); (case aB => exact bes); (case aF => exact (fun k_ hk => Kd.fresh' (Kd.R_lt (kr HO_486003)) k_ hk)); (case aO => exact (kr HO_12)); (case aS => exact (below_size bes)); (case aL => have := LMc38.out; omega); intro v495 w40 ho hb hg hat; rw [← Ny494.out] at ho; refine ax4 (Kd.R_after (ok := (fun _ => True)) (km HO_486003 fun _ hk => ⟨trivial, hk⟩) hg hat) (blk_grown (g := gb485) (o := .cells #[.int .i64 t479, .int .i64 t480, .int .i64 t481, u486003] 35 (0, 0)) (kb BK485) hg (Kd.R_ne HO_12.out BK485.out (by decide))) hb ho ?_; clear HO_486003; clear BK485; clear HB; clear HO_12; intro HO_486003 BK485 HB HO496; clear ho hb hg hat))
            go_roundg k3
            case measure => have := HJ6.out; have := HK2.out; have := HK3.out; omega
            case rel => exact ⟨(y494), (wrap64 (x13_3 + 1)), (by first | rfl | (simp; done) | (simp [*]; done)), H', ⟨by have := HJ6.out; have := HK2.out; have := HK3.out; omega⟩, ⟨kr HO496⟩, ⟨by (with_reducible repeat (first | apply Kd.R_alloc | apply Kd.R_drewN | apply Kd.R_drew)); exact Kd.R_mono HO_486003.out (fun _ hk => hk.2)⟩, ⟨kb BK485⟩, ⟨bes⟩⟩
          ·
           rw [if_neg c32] at H
           have c32b0 : decide (0 < (l2.length : Int)) = false := decide_eq_false c32
           have c32b1 : decide (0 < l2.length) = false := decide_eq_false (by omega)
           clear c32
           obtain ⟨t497, A410, H⟩ := Option.bind_eq_some_iff.mp H
           (try dsimp -simprocs only at H)
           have A41 := Aside0.mk A410
           clear A410
           by_cases c42 : x12_3.length < 17592186044416
           rotate_left
           ·
            rw [if_neg c42] at H
            exact absurd H (by simp)
           rw [if_pos c42] at H
           have LMc42 := Aside0.mk c42
           clear c42
           obtain ⟨y498, hy498⟩ : ∃ y_ : List Int, y_ = (x12_3 ++ [t497]) := ⟨_, rfl⟩
           replace H : (gimballaw12_SolveBack.l1 k3 (Go.bits .and .i64 a0 7) l2 a3 y498 (wrap64 (x13_3 + 1)) t479 t480 t481 x486003_2) = some r := by first | (rw [hy498]; with_reducible exact H) | (have H2_ := (Option.bind_some _ _).symm.trans H; rw [hy498]; with_reducible exact H2_) | (have H2_ := (Option.bind_some _ _).symm.trans H; with_reducible exact H2_) | with_reducible exact H | (rw [hy498]; exact H) | exact H
           have Ny498 := Aside0.mk hy498
           clear hy498
           have H' := Aside0.mk H
           clear H
           go_wp2_with (first | (go_at_call 7; (with_reducible refine (gimballaw12_SolveBack_1.calls k3 (-500) t497 _ ?side1 A41.out).mono ?_); (case side1 => first | exact hT | exact TabW.drewN hT _ | exact TabW.drew hT | exact TabW.below hT bes); rintro e w43 ⟨rfl, hb⟩; refine ax4 (Kd.R_below (kr HO_12) hb) (Kd.R_below (kr HO_486003) hb) (bb BK485 hb) (below_step bes hb) ?_; clear HO_12; clear HO_486003; clear BK485; clear HB; intro HO_12 HO_486003 BK485 HB; (try clear hb)) | ((with_reducible refine gate_builtin (b := .append) (xs := #[.tmp 76, .tmp 81]) rfl ?_); at_builtin; refine Kd.R_append (Kd.int .u64) (w0 := w) w.heap.size rfl (.tmp 76) (.tmp 81) 33 24 (.int .u64 0) 8 rfl Tryd.underlying33 info24 rfl (by decide) (by omega) u12 x12_3 t497 [.int .u64 t497] (fun k_ => some k_ ≠ (u486003 : Value).ownBlock) (fun _ => False) rfl rfl ?aP (fun _ hk => hk.elim) ?aF ?aO ?aB ?aS ?aL ?_; (case aP => exact rfl); (case aB => exact bes); (case aF => exact (fun k_ hk => Kd.fresh' (Kd.R_lt (kr HO_486003)) k_ hk)); (case aO => exact (kr HO_12)); (case aS => exact (below_size bes)); (case aL => have := LMc42.out; omega); intro v499 w44 ho hb hg hat; rw [← Ny498.out] at ho; refine ax4 (Kd.R_after (ok := (fun _ => True)) (km HO_486003 fun _ hk => ⟨trivial, hk⟩) hg hat) (blk_grown (g := gb485) (o := .cells #[.int .i64 t479, .int .i64 t480, .int .i64 t481, u486003] 35 (0, 0)) (kb BK485) hg (Kd.R_ne HO_12.out BK485.out (by decide))) hb ho ?_; clear HO_486003; clear BK485; clear HB; clear HO_12; intro HO_486003 BK485 HB HO500; clear ho hb hg hat))
           go_roundg k3
           case measure => have := HJ6.out; have := HK2.out; have := HK3.out; omega
           case rel => exact ⟨(y498), (wrap64 (x13_3 + 1)), (by first | rfl | (simp; done) | (simp [*]; done)), H', ⟨by have := HJ6.out; have := HK2.out; have := HK3.out; omega⟩, ⟨kr HO500⟩, ⟨by (with_reducible repeat (first | apply Kd.R_alloc | apply Kd.R_drewN | apply Kd.R_drew)); exact Kd.R_mono HO_486003.out (fun _ hk => hk.2)⟩, ⟨kb BK485⟩, ⟨bes⟩⟩
         ·
          rw [if_neg c31] at H
          have c31b0 : decide (x13_3 < (Go.bits .and .i64 a0 7)) = false := decide_eq_false c31
          clear c31
          obtain ⟨⟨t501, t504⟩, A450, H⟩ := Option.bind_eq_some_iff.mp H
          (try dsimp -simprocs only at H)
          have A45 := Aside0.mk A450
          clear A450
          obtain ⟨⟨t505, t508⟩, A460, H⟩ := Option.bind_eq_some_iff.mp H
          (try dsimp -simprocs only at H)
          have A46 := Aside0.mk A460
          clear A460
          have HC47 := Aside0.mk H
          clear H
          have hcz48_0 := bc BK485 0 rfl
          have hcz48_1 := bc BK485 1 rfl
          have hcz48_2 := bc BK485 2 rfl
          have hcz48_3 := bc BK485 3 rfl
          have hfz48_0 := blk_frozen BK485.out 0
          have hfz48_1 := blk_frozen BK485.out 1
          have hfz48_2 := blk_frozen BK485.out 2
          have hfz48_3 := blk_frozen BK485.out 3
          obtain ⟨Ao49, co49, eo49⟩ := Kd.R_slice HO_486003.out
          subst eo49
          obtain ⟨Ao50, co50, eo50⟩ := Kd.R_slice HO_12.out
          subst eo50
          go_upto_region 24 with (first | ((with_reducible refine gate_callee (f := 11) rfl ?_); refine goesL_ (some 87) rfl rfl Tryd.func11 (by kernel_rfl) rfl #[.pointer none, .agg #[.int .i64 t479, .int .i64 t480, .int .i64 t481, .slice Ao49 x486003_2.length co49], .bool a3, .bool true, .slice Ao50 x12_3.length co50] rfl ga ?_; (with_reducible refine (solve_Trmv_nil.calls k3  t479 t480 t481 _ _ x486003_2 a3 true _ _ x12_3 t501 t504 _ ?side1 ?side2 ?side3 ?side4 A45.out).mono ?_); (case side1 => exact ks HO_486003); (case side2 => exact (Kd.R_reads' HO_486003.out).2.1); (case side3 => exact ks HO_12); (case side4 => exact (Kd.R_reads' HO_12.out).2.1); rintro e w51 ⟨v502, rfl, ho0, hb⟩; refine ⟨_, rfl, ?_⟩; refine ax5 (Kd.R_elder' (kr HO_12) (Kd.R_base ho0) hb) (Kd.R_elder' (kr HO_486003) (Kd.R_base ho0) hb) (Kd.R_lower (Kd.R_new' (Kd.R_new' ho0 (Kd.R_lt (kr HO_12))) (Kd.R_lt (kr HO_486003))) (below_size bes)) (bb BK485 hb) (below_step bes hb) ?_; clear HO_12; clear HO_486003; clear BK485; clear HB; intro HO_12 HO_486003 HO503 BK485 HB; (try clear hb); (try clear ho0); have hcz52_0 := bc BK485 0 rfl; have hcz52_1 := bc BK485 1 rfl; have hcz52_2 := bc BK485 2 rfl; have hcz52_3 := bc BK485 3 rfl; have hfz52_0 := blk_frozen BK485.out 0; have hfz52_1 := blk_frozen BK485.out 1; have hfz52_2 := blk_frozen BK485.out 2; have hfz52_3 := blk_frozen BK485.out 3; obtain ⟨Ao53, co53, eo53⟩ := Kd.R_slice HO503.out; subst eo53) | ((with_reducible refine gate_callee (f := 12) rfl ?_); refine goesL_ (some 94) rfl rfl Tryd.func12 (by kernel_rfl) rfl #[.pointer none, .agg #[.int .i64 t479, .int .i64 t480, .int .i64 t481, .slice Ao49 x486003_2.length co49], .bool a3, .bool true, .slice Ao53 t501.length co53] rfl ga ?_; (with_reducible refine (solve_Trsv_nil.calls k3  t479 t480 t481 _ _ x486003_2 a3 true _ _ t501 t505 t508 _ ?side1 ?side2 ?side3 ?side4 A46.out).mono ?_); (case side1 => exact ks HO_486003); (case side2 => exact (Kd.R_reads' HO_486003.out).2.1); (case side3 => exact ks HO503); (case side4 => exact (Kd.R_reads' HO503.out).2.1); rintro e w54 ⟨v506, rfl, ho0, hb⟩; refine ⟨_, rfl, ?_⟩; refine ax6 (Kd.R_elder' (kr HO_12) (Kd.R_base ho0) hb) (Kd.R_elder' (kr HO_486003) (Kd.R_base ho0) hb) (Kd.R_elder' (kr HO503) (Kd.R_base ho0) hb) (Kd.R_lower (Kd.R_new' (Kd.R_new' (Kd.R_new' ho0 (Kd.R_lt (kr HO_12))) (Kd.R_lt (kr HO_486003))) (Kd.R_lt (kr HO503))) (below_size bes)) (bb BK485 hb) (below_step bes hb) ?_; clear HO_12; clear HO_486003; clear HO503; clear BK485; clear HB; intro HO_12 HO_486003 HO503 HO507 BK485 HB; (try clear hb); (try clear ho0)))
          (try simp only [Act.put, sa0, sa1, sa2])
          go_cut [108] (fun v108 wc => ∃ (kq : Nat) (x108_46 : Bool), v108 = .bool x108_46 ∧ Aside0 (gimballaw12_SolveBack.j3 kq x12_3 t505 x108_46 = some r) ∧ Aside0 (kq ≤ k3) ∧ Aside0 (Kd.R (Kd.int .u64) 24 wc w.heap.size (fun k_ => some k_ ≠ (v506 : Value).ownBlock ∧ some k_ ≠ ((.slice Ao49 x486003_2.length co49) : Value).ownBlock) (.slice Ao50 x12_3.length co50) x12_3) ∧ Aside0 (Kd.R (Kd.int .u64) 24 wc w.heap.size (fun k_ => some k_ ≠ ((.slice Ao50 x12_3.length co50) : Value).ownBlock ∧ some k_ ≠ ((.slice Ao49 x486003_2.length co49) : Value).ownBlock) v506 t505) ∧ Aside0 (Kd.R (Kd.int .u64) 24 wc w.heap.size (fun k_ => some k_ ≠ ((.slice Ao50 x12_3.length co50) : Value).ownBlock ∧ some k_ ≠ (v506 : Value).ownBlock) (.slice Ao49 x486003_2.length co49) x486003_2) ∧ Aside0 (wc.heap[gb485]? = some (.cells #[.int .i64 t479, .int .i64 t480, .int .i64 t481, (.slice Ao49 x486003_2.length co49)] 35 (0, 0))) ∧ Aside0 (Below w.heap.size w wc))
          case first =>
           have H := HC47.out
           clear HC47
           by_cases c55 : t504 = 0
           rotate_left
           ·
            rw [if_neg c55] at H
            have c55b0 : (t504 == 0) = false := beq_eq_false_iff_ne.mpr c55
            have c55b1 : (t504 != 0) = true := bne_iff_ne.mpr c55
            (first | rw [c55b0] | (simp only [i64_w, i32_w]; rw [c55b0]) | skip)
            rw [hLW] at H
            exact absurd H (by cases k3 <;> simp [gimballaw12_SolveBack.j3])
           rw [if_pos c55] at H
           have c55b0 : (t504 == 0) = true := beq_iff_eq.mpr c55
           have c55b1 : (t504 != 0) = false := bne_eq_false_iff_eq.mpr c55
           clear c55
           (first | rw [c55b0] | (simp only [i64_w, i32_w]; rw [c55b0]) | skip)
           by_cases c56 : t508 = 0
           rotate_left
           ·
            rw [if_neg c56] at H
            have c56b0 : (t508 == 0) = false := beq_eq_false_iff_ne.mpr c56
            have c56b1 : (t508 != 0) = true := bne_iff_ne.mpr c56
            rw [hLW] at H
            exact absurd H (by cases k3 <;> simp [gimballaw12_SolveBack.j3])
           rw [if_pos c56] at H
           have c56b0 : (t508 == 0) = true := beq_iff_eq.mpr c56
           have c56b1 : (t508 != 0) = false := bne_eq_false_iff_eq.mpr c56
           clear c56
           have H' := Aside0.mk H
           clear H
           obtain ⟨Ao57, co57, eo57⟩ := Kd.R_slice HO507.out
           subst eo57
           go_wp2
           go_meet
           case rel => exact ⟨_, (((t505.length : Int) != (Go.bits .and .i64 a0 7))), (by first | rfl | (simp; done) | (simp [*]; done)), H', ⟨by have := HJ6.out; have := HK2.out; have := HK3.out; first | omega | exact Nat.le_refl _⟩, ⟨by (with_reducible repeat (first | apply Kd.R_alloc | apply Kd.R_drewN | apply Kd.R_drew)); exact Kd.R_mono HO_12.out (fun _ hk => ⟨hk.2, hk.1.1⟩)⟩, ⟨by (with_reducible repeat (first | apply Kd.R_alloc | apply Kd.R_drewN | apply Kd.R_drew)); exact Kd.R_mono HO507.out (fun _ hk => ⟨hk.1.1.2, hk.1.2⟩)⟩, ⟨by (with_reducible repeat (first | apply Kd.R_alloc | apply Kd.R_drewN | apply Kd.R_drew)); exact Kd.R_mono HO_486003.out (fun _ hk => ⟨hk.1.1, hk.2⟩)⟩, ⟨kb BK485⟩, ⟨bes⟩⟩
          case rest =>
           clear HC47
           try clear c1
           try clear c2
           try clear p2
           try clear q2
           try clear hx2
           try clear c3
           try clear c4
           try clear p4
           try clear q4
           try clear hx4
           try clear c5
           try clear c6
           try clear p6
           try clear c7
           try clear c9
           try clear c9b0
           try clear c9b1
           try clear c10
           try clear c16
           try clear c16b0
           try clear c17
           try clear c17b0
           try clear c17b1
           try clear c18
           try clear c18b0
           try clear c18b1
           try clear c18b2
           try clear c20
           try clear c20b0
           try clear c21
           try clear c21b0
           try clear c23
           try clear c23b0
           try clear c24
           try clear c24b0
           try clear p25
           try clear q25
           try clear hx25
           try clear hf25
           try clear c31
           try clear c31b0
           try clear c32
           try clear c32b0
           try clear c32b1
           try clear c33
           try clear c33b0
           try clear c33b1
           try clear c33b2
           try clear c35
           try clear c35b0
           try clear c36
           try clear c36b0
           try clear c38
           try clear c42
           try clear p48
           try clear q48
           try clear hx48
           try clear p49
           try clear q49
           try clear hx49
           try clear c55
           try clear c55b0
           try clear c55b1
           try clear c56
           try clear c56b0
           try clear c56b1
           try clear hcz14_0
           try clear hcz14_1
           try clear hcz14_2
           try clear hcz14_3
           try clear hcz48_0
           try clear hcz48_1
           try clear hcz48_2
           try clear hcz48_3
           try clear hcz52_0
           try clear hcz52_1
           try clear hcz52_2
           try clear hcz52_3
           try clear hfz14_0
           try clear hfz14_1
           try clear hfz14_2
           try clear hfz14_3
           try clear hfz48_0
           try clear hfz48_1
           try clear hfz48_2
           try clear hfz48_3
           try clear hfz52_0
           try clear hfz52_1
           try clear hfz52_2
           try clear hfz52_3
           try clear hx25_0
           try clear hx486_0
           try clear hx492_0
           try clear p2
           try clear p25
           try clear p4
           try clear p486
           try clear p492
           try clear p6
           try clear q2
           try clear q25
           try clear q4
           try clear q486
           try clear q492
           obtain ⟨kq, x108_46, rfl, HA, HJ46, HO_12, HO_17, HO_486003, BK485, HB⟩ := hcut
           cases kq with
           | zero => exact absurd HA.out (by simp [gimballaw12_SolveBack.j3])
           | succ kj46 =>
            have H := HA.out
            clear HA
            simp only [gimballaw12_SolveBack.j3] at H
            by_cases c58 : x108_46 = true
            ·
             subst c58
             rw [if_pos rfl] at H
             rw [hLW] at H
             exact absurd H (by simp)
            ·
             replace c58 := Bool.eq_false_iff.mpr c58
             subst c58
             rw [if_neg (show ¬ (false = true) by decide)] at H
             have H' := Aside0.mk H
             clear H
             obtain ⟨Ao59, co59, eo59⟩ := Kd.R_slice HO_17.out
             subst eo59
             go_wp2
             go_loopg [111] kj46 (fun kq v111 w' => ∃ (x111_5 : Int), v111 = .int .i64 x111_5 ∧ Aside0 (gimballaw12_SolveBack.l2 kq x12_3 t505 (t505.length : Int) x111_5 = some r) ∧ Aside0 (kq ≤ kj46) ∧ Aside0 (Kd.R (Kd.int .u64) 24 w' w.heap.size (fun k_ => some k_ ≠ ((.slice Ao59 t505.length co59) : Value).ownBlock ∧ some k_ ≠ ((.slice Ao49 x486003_2.length co49) : Value).ownBlock) (.slice Ao50 x12_3.length co50) x12_3) ∧ Aside0 (Kd.R (Kd.int .u64) 24 w' w.heap.size (fun k_ => some k_ ≠ ((.slice Ao50 x12_3.length co50) : Value).ownBlock ∧ some k_ ≠ ((.slice Ao49 x486003_2.length co49) : Value).ownBlock) (.slice Ao59 t505.length co59) t505) ∧ Aside0 (Kd.R (Kd.int .u64) 24 w' w.heap.size (fun k_ => some k_ ≠ ((.slice Ao50 x12_3.length co50) : Value).ownBlock ∧ some k_ ≠ ((.slice Ao59 t505.length co59) : Value).ownBlock) (.slice Ao49 x486003_2.length co49) x486003_2) ∧ Aside0 (w'.heap[gb485]? = some (.cells #[.int .i64 t479, .int .i64 t480, .int .i64 t481, (.slice Ao49 x486003_2.length co49)] 35 (0, 0))) ∧ Aside0 (Below w.heap.size w w'))
             case atStart => exact ⟨(0), (by first | rfl | (simp; done) | (simp [*]; done)), H', ⟨Nat.le_refl _⟩, ⟨kr HO_12⟩, ⟨kr HO_17⟩, ⟨kr HO_486003⟩, ⟨kb BK485⟩, ⟨bes⟩⟩
             case round =>
              clear H'
              try clear c1
              try clear c2
              try clear p2
              try clear q2
              try clear hx2
              try clear c3
              try clear c4
              try clear p4
              try clear q4
              try clear hx4
              try clear c5
              try clear c6
              try clear p6
              try clear c7
              try clear c9
              try clear c9b0
              try clear c9b1
              try clear c10
              try clear c16
              try clear c16b0
              try clear c17
              try clear c17b0
              try clear c17b1
              try clear c18
              try clear c18b0
              try clear c18b1
              try clear c18b2
              try clear c20
              try clear c20b0
              try clear c21
              try clear c21b0
              try clear c23
              try clear c23b0
              try clear c24
              try clear c24b0
              try clear p25
              try clear q25
              try clear hx25
              try clear hf25
              try clear c31
              try clear c31b0
              try clear c32
              try clear c32b0
              try clear c32b1
              try clear c33
              try clear c33b0
              try clear c33b1
              try clear c33b2
              try clear c35
              try clear c35b0
              try clear c36
              try clear c36b0
              try clear c38
              try clear c42
              try clear p48
              try clear q48
              try clear hx48
              try clear p49
              try clear q49
              try clear hx49
              try clear c55
              try clear c55b0
              try clear c55b1
              try clear c56
              try clear c56b0
              try clear c56b1
              try clear c58
              try clear hcz14_0
              try clear hcz14_1
              try clear hcz14_2
              try clear hcz14_3
              try clear hcz48_0
              try clear hcz48_1
              try clear hcz48_2
              try clear hcz48_3
              try clear hcz52_0
              try clear hcz52_1
              try clear hcz52_2
              try clear hcz52_3
              try clear hfz14_0
              try clear hfz14_1
              try clear hfz14_2
              try clear hfz14_3
              try clear hfz48_0
              try clear hfz48_1
              try clear hfz48_2
              try clear hfz48_3
              try clear hfz52_0
              try clear hfz52_1
              try clear hfz52_2
              try clear hfz52_3
              try clear hx25_0
              try clear hx486_0
              try clear hx492_0
              try clear p2
              try clear p25
              try clear p4
              try clear p48
              try clear p486
              try clear p49
              try clear p492
              try clear p6
              try clear q2
              try clear q25
              try clear q4
              try clear q48
              try clear q486
              try clear q49
              try clear q492
              obtain ⟨x111_5, rfl, HA, HK5, HO_12, HO_17, HO_486003, BK485, HB⟩ := hrel
              cases gk with
              | zero => exact absurd HA.out (by simp [gimballaw12_SolveBack.l2])
              | succ k5 =>
               have H := HA.out
               clear HA
               simp only [gimballaw12_SolveBack.l2] at H
               by_cases c60 : x111_5 < (t505.length : Int)
               rotate_left
               ·
                rw [if_neg c60] at H
                have c60b0 : decide (x111_5 < (t505.length : Int)) = false := decide_eq_false c60
                clear c60
                obtain rfl := Option.some.inj H
                go_wp2
                go_ret
                exact ⟨er, bes⟩
               rw [if_pos c60] at H
               have c60b0 : decide (x111_5 < (t505.length : Int)) = true := decide_eq_true c60
               clear c60
               by_cases c61 : 0 ≤ x111_5
               rotate_left
               ·
                rw [if_neg c61] at H
                exact absurd H (by simp)
               rw [if_pos c61] at H
               have c61b0 : decide (0 ≤ x111_5) = true := decide_eq_true c61
               clear c61
               by_cases c62 : x111_5 < (t505.length : Int)
               rotate_left
               ·
                rw [if_neg c62] at H
                exact absurd H (by simp)
               rw [if_pos c62] at H
               have c62b0 : decide (x111_5 < (t505.length : Int)) = true := decide_eq_true c62
               clear c62
               by_cases c63 : x111_5 < (x12_3.length : Int)
               rotate_left
               ·
                rw [if_neg c63] at H
                exact absurd H (by simp)
               rw [if_pos c63] at H
               have c63b0 : decide (x111_5 < (x12_3.length : Int)) = true := decide_eq_true c63
               clear c63
               by_cases c64 : (rd t505 x111_5) = (rd x12_3 x111_5)
               rotate_left
               ·
                rw [if_neg c64] at H
                have c64b0 : ((rd t505 x111_5) == (rd x12_3 x111_5)) = false := beq_eq_false_iff_ne.mpr c64
                have c64b1 : ((rd t505 x111_5) != (rd x12_3 x111_5)) = true := bne_iff_ne.mpr c64
                rw [hLW] at H
                exact absurd H (by simp)
               rw [if_pos c64] at H
               have c64b0 : ((rd t505 x111_5) == (rd x12_3 x111_5)) = true := beq_iff_eq.mpr c64
               have c64b1 : ((rd t505 x111_5) != (rd x12_3 x111_5)) = false := bne_eq_false_iff_eq.mpr c64
               clear c64
               have H' := Aside0.mk H
               clear H
               try go_wp2
               refine ax5 (Kd.R_drew HO_12.out) (Kd.R_drew HO_17.out) (Kd.R_drew HO_486003.out) (blk_drew BK485.out) (below_drew1 HB.out) ?_
               clear HO_12 HO_17 HO_486003 BK485 HB
               intro HO_12 HO_17 HO_486003 BK485 HB
               have p509 : 0 ≤ (x111_5 : Int) := of_decide_eq_true (by first | (with_reducible assumption) | assumption)
               have q509 : x111_5 < (t505.length : Int) := of_decide_eq_true (by first | (with_reducible assumption) | assumption)
               obtain ⟨ad509, e509, hx509_0⟩ := Kd.at_int (Kd.R_reads' HO_17.out).2.2 x111_5 p509 q509
               cases e509
               replace p509 := eq_true p509
               replace q509 := eq_true q509
               have p510 : 0 ≤ (x111_5 : Int) := of_decide_eq_true (by first | (with_reducible assumption) | assumption)
               have q510 : x111_5 < (x12_3.length : Int) := of_decide_eq_true (by first | (with_reducible assumption) | assumption)
               obtain ⟨ad510, e510, hx510_0⟩ := Kd.at_int (Kd.R_reads' HO_12.out).2.2 x111_5 p510 q510
               cases e510
               replace p510 := eq_true p510
               replace q510 := eq_true q510
               refine start_ (n := 9) (S := fun w' => w'.cell? (ad509.add (x111_5).toNat) = some (.int .u64 (rd t505 x111_5)) ∧ w'.cell? (ad510.add (x111_5).toNat) = some (.int .u64 (rd x12_3 x111_5))) (ds := []) #[false, false, false, false, false, false, false, false, false] (by kernel_rfl) rfl rfl ⟨hx509_0, hx510_0⟩ (fun hHeld => ?_); refine with_tabW gimballaw12_SolveBack.tab29 gimballaw12_SolveBack.bits29 (fun HT_ HW_ => ?_)
               generalize wr.drew = w65 at HO_12 HO_17 HO_486003 BK485 HB hx509_0 hx510_0 hHeld ⊢
               refine pu 0 114 (lm 9 1) HT_ ?_
               refine pu 1 115 (lm 9 3) HT_ ?_
               refine pu 2 116 (lm 9 7) HT_ ?_
               refine pu 4 118 (lm 9 23) HT_ ?_
               refine pu 5 119 (lm 9 55) HT_ ?_
               refine pu 6 120 (lm 9 119) HT_ ?_
               refine ta 3 117 (lm 9 127) HT_ HW_ hHeld ?_
               refine ta 7 121 (lm 9 255) HT_ HW_ hHeld ?_
               refine pu 8 122 (lm 9 511) HT_ ?_
               refine done_ (done_of HT_.out (by kernel_rfl)) ?_
               try go_wp2
               go_roundg k5
               case measure => have := HJ6.out; have := HK2.out; have := HK3.out; have := HJ46.out; have := HK5.out; omega
               case rel => exact ⟨(wrap64 (x111_5 + 1)), (by first | rfl | (simp; done) | (simp [*]; done)), H', ⟨by have := HJ6.out; have := HK2.out; have := HK3.out; have := HJ46.out; have := HK5.out; omega⟩, ⟨kr HO_12⟩, ⟨kr HO_17⟩, ⟨kr HO_486003⟩, ⟨kb BK485⟩, ⟨bes⟩⟩
/-- THE ONE PURE STATEMENT of gimballaw12_SolveBack: yours. -/
def gimballaw12_SolveBack.Pure : Prop := ∀ (a0 : Int) (l1 : List Int) (l2 : List Int) (a3 : Bool), (Lit.int .i64 a0).wf = true → l1.length ≤ maxLen → l1.length * 8 ≤ 140737488351232 → (∀ x ∈ l1, (Lit.int .i64 x).wf = true) → l2.length ≤ maxLen → l2.length * 8 ≤ 140737488351232 → (∀ x ∈ l2, (Lit.int .i64 x).wf = true) → ∃ k, gimballaw12_SolveBack.f k a0 l1 l2 a3 = some true
theorem gimballaw12_SolveBack.walk (P : gimballaw12_SolveBack.Pure) (a0 : Int) (a1 : Option Addr) (len1 cap1 : Nat) (z1 : List Int) (a2 : Option Addr) (len2 cap2 : Nat) (z2 : List Int) (a3 : Bool) (w : World) (w0 : (Lit.int .i64 a0).wf = true) (w1 : (a1 = none ∧ len1 = 0 ∧ cap1 = 0 ∧ z1 = []) ∨ ∃ x, a1 = some x ∧ len1 ≤ cap1 ∧ cap1 ≤ maxLen ∧ z1.length = cap1 ∧ (∀ i, i < z1.length → w.cell? (x.add i) = some (.int .i64 (z1.getD i 0))) ∧ ∀ n ∈ z1, (Lit.int .i64 n).wf = true) (y1 : len1 * 8 ≤ 140737488351232) (w2 : (a2 = none ∧ len2 = 0 ∧ cap2 = 0 ∧ z2 = []) ∨ ∃ x, a2 = some x ∧ len2 ≤ cap2 ∧ cap2 ≤ maxLen ∧ z2.length = cap2 ∧ (∀ i, i < z2.length → w.cell? (x.add i) = some (.int .i64 (z2.getD i 0))) ∧ ∀ n ∈ z2, (Lit.int .i64 n).wf = true) (y2 : len2 * 8 ≤ 140737488351232) (hT : TabW w) :
  Calls Tryd.prog 3 #[.int .i64 a0, .slice a1 len1 cap1, .slice a2 len2 cap2, .bool a3] w fun e w' => e = .returned (.bool true) ∧ Below w.heap.size w w' := by
 obtain ⟨l1, rfl, hr1, hm1, hw1, hc1⟩ := ReadsInt.ofRowC w1
 obtain ⟨l2, rfl, hr2, hm2, hw2, hc2⟩ := ReadsInt.ofRowC w2
 obtain ⟨k, h⟩ := P a0 l1 l2 a3 w0 hm1 y1 hw1 hm2 y2 hw2
 refine (gimballaw12_SolveBack.calls k a0 _ _ l1 _ _ l2 a3 true w (Kd.C_of_reads (d := (0 : Int)) (h1 := fun _ => rfl) hr1) hc1 (Kd.C_of_reads (d := (0 : Int)) (h1 := fun _ => rfl) hr2) hc2 hT rfl h).mono ?_
 rintro e w' ⟨rfl, hd⟩
 exact ⟨rfl, hd⟩

end Go.Proofs.YtnjobojkoaknpaaDoor.F
