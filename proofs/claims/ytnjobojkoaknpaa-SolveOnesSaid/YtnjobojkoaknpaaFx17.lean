-- Written by a program of this seat's session (mkprint), out of the translation.
import Derived.Test.YtnjobojkoaknpaaShort
import Derived.Test.YtnjobojkoaknpaaFx0
import Derived.Test.YtnjobojkoaknpaaFx2
import Derived.Test.YtnjobojkoaknpaaFx9
import Derived.Test.YtnjobojkoaknpaaFx10
import Derived.Test.YtnjobojkoaknpaaFx15
import Derived.Test.YtnjobojkoaknpaaFx16
namespace Go.Proofs.Ytnjobojkoaknpaa.F
open Go.RowKit Go.Proofs.YtnjobojkoaknpaaW.PrintWords Go.Proofs.YtnjobojkoaknpaaW.PrintLast Go.Proofs.YtnjobojkoaknpaaW.PrintMore
attribute [local go_sem] max2_int min2_int max_two min_two max_three min_three max_four min_four   -- for this text's walks alone
set_option linter.unusedVariables false
set_option linter.unusedSimpArgs false

/-! ### gimballaw12_SolveOnes: function 4 -/
mutual
def gimballaw12_SolveOnes.j0 : Nat → List Int → List Int → Bool → Bool → Option (Bool)
 | 0, _, _, _, _ => none
 | k + 1, x0, x1, x2, x29 => if x29 = true then (some true) else ((mat_One.f k (x0.length : Int)).bind fun bt499 => ((solve_Trsv_nil.f k bt499.1 bt499.2.1 bt499.2.2.1 bt499.2.2.2 x2 false x0).bind fun bt505 => ((mat_New.f (x0.length : Int) (x0.length : Int)).bind fun bt509 => (gimballaw12_SolveOnes.l0 k x0 x1 x2 (x0.length : Int) bt505.1 bt505.2 0 bt509.1 bt509.2.1 bt509.2.2.1 bt509.2.2.2))))
def gimballaw12_SolveOnes.l0 : Nat → List Int → List Int → Bool → Int → List Int → Int → Int → Int → Int → Int → List Int → Option (Bool)
 | 0, _, _, _, _, _, _, _, _, _, _, _ => none
 | k + 1, x0, x1, x2, x7, x8, x9, x11, x516000, x516001, x516002, x516003 => if x11 < x7 then (if (x1.length : Int) > 0 then (if (x1.length : Int) = 0 then (none) else (if 0 ≤ (Int.tmod x11 (x1.length : Int)) then (if (Int.tmod x11 (x1.length : Int)) < (x1.length : Int) then (gimballaw12_SolveOnes.j2 k x0 x1 x2 x7 x8 x9 x11 (wrap64 ((Go.bits .and .i64 (rd x1 (Int.tmod x11 (x1.length : Int))) 63) - 32)) x516000 x516001 x516002 x516003) else (none)) else (none))) else (gimballaw12_SolveOnes.j2 k x0 x1 x2 x7 x8 x9 x11 0 x516000 x516001 x516002 x516003)) else ((solve_Trmv_nil.f k x516000 x516001 x516002 x516003 x2 false x0).bind fun bt532 => ((solve_Trsv_nil.f k x516000 x516001 x516002 x516003 x2 false bt532.1).bind fun bt536 => (if x9 = 0 then (if bt532.2 = 0 then (gimballaw12_SolveOnes.j3 k x0 x8 bt536.1 (bt536.2 != 0)) else (gimballaw12_SolveOnes.j3 k x0 x8 bt536.1 true)) else (gimballaw12_SolveOnes.j3 k x0 x8 bt536.1 true))))
def gimballaw12_SolveOnes.j2 : Nat → List Int → List Int → Bool → Int → List Int → Int → Int → Int → Int → Int → Int → List Int → Option (Bool)
 | 0, _, _, _, _, _, _, _, _, _, _, _, _ => none
 | k + 1, x0, x1, x2, x7, x8, x9, x11, x12, x516000, x516001, x516002, x516003 => (dyad_Two.f x12).bind fun bt517 => ((dyad_Num_Near.f k bt517.1 bt517.2.1 bt517.2.2).bind fun bt522 => ((mat_Matrix_Set.f x516000 x516001 x516002 x516003 x11 x11 bt522.1).bind fun t524 => (if 0 ≤ x11 then (if x11 < (x0.length : Int) then ((word_Finite.f (rd x0 x11)).bind fun t526 => (if t526 = true then ((word_Abs.f (rd x0 x11)).bind fun t528 => (if t528 = 0 then (gimballaw12_SolveOnes.l0 k x0 x1 x2 x7 x8 x9 (wrap64 (x11 + 1)) x516000 x516001 x516002 t524) else ((word_Exp.f (rd x0 x11)).bind fun t530 => (if t530 < 100 then (some true) else (if t530 > 1900 then (some true) else (gimballaw12_SolveOnes.l0 k x0 x1 x2 x7 x8 x9 (wrap64 (x11 + 1)) x516000 x516001 x516002 t524)))))) else (some true))) else (none)) else (none))))
def gimballaw12_SolveOnes.j3 : Nat → List Int → List Int → List Int → Bool → Option (Bool)
 | 0, _, _, _, _ => none
 | k + 1, x0, x8, x17, x124 => if x124 = true then (some false) else (gimballaw12_SolveOnes.l1 k x0 x8 x17 (x0.length : Int) 0)
def gimballaw12_SolveOnes.l1 : Nat → List Int → List Int → List Int → Int → Int → Option (Bool)
 | 0, _, _, _, _, _ => none
 | k + 1, x0, x8, x17, x126, x127 => if x127 < x126 then (if 0 ≤ x127 then (if x127 < (x8.length : Int) then (if x127 < (x0.length : Int) then (if (rd x8 x127) = (rd x0 x127) then (if x127 < (x17.length : Int) then (if (rd x17 x127) = (rd x0 x127) then (gimballaw12_SolveOnes.l1 k x0 x8 x17 x126 (wrap64 (x127 + 1))) else ((word_Abs.f (rd x0 x127)).bind fun t545 => (if t545 = 0 then (gimballaw12_SolveOnes.l1 k x0 x8 x17 x126 (wrap64 (x127 + 1))) else (some false)))) else (none)) else ((word_Abs.f (rd x0 x127)).bind fun t547 => (if t547 = 0 then (if x127 < (x17.length : Int) then (if (rd x17 x127) = (rd x0 x127) then (gimballaw12_SolveOnes.l1 k x0 x8 x17 x126 (wrap64 (x127 + 1))) else ((word_Abs.f (rd x0 x127)).bind fun t551 => (if t551 = 0 then (gimballaw12_SolveOnes.l1 k x0 x8 x17 x126 (wrap64 (x127 + 1))) else (some false)))) else (none)) else (some false)))) else (none)) else (none)) else (none)) else (some true)
end
def gimballaw12_SolveOnes.f (k : Nat) (l0 : List Int) (l1 : List Int) (a2 : Bool) : Option (Bool) := (gimballaw12_head.f k).bind fun t498 => (if t498 = true then (if (l0.length : Int) > 12 then (gimballaw12_SolveOnes.j0 k l0 l1 a2 true) else (gimballaw12_SolveOnes.j0 k l0 l1 a2 (decide ((l1.length : Int) > 12)))) else (some false))
theorem gimballaw12_SolveOnes.mono_l : ∀ k, (∀ y0 y1 y2 y3, LeO (gimballaw12_SolveOnes.j0 k y0 y1 y2 y3) (gimballaw12_SolveOnes.j0 (k + 1) y0 y1 y2 y3)) ∧ (∀ y0 y1 y2 y3 y4 y5 y6 y7 y8 y9 y10, LeO (gimballaw12_SolveOnes.l0 k y0 y1 y2 y3 y4 y5 y6 y7 y8 y9 y10) (gimballaw12_SolveOnes.l0 (k + 1) y0 y1 y2 y3 y4 y5 y6 y7 y8 y9 y10)) ∧ (∀ y0 y1 y2 y3 y4 y5 y6 y7 y8 y9 y10 y11, LeO (gimballaw12_SolveOnes.j2 k y0 y1 y2 y3 y4 y5 y6 y7 y8 y9 y10 y11) (gimballaw12_SolveOnes.j2 (k + 1) y0 y1 y2 y3 y4 y5 y6 y7 y8 y9 y10 y11)) ∧ (∀ y0 y1 y2 y3, LeO (gimballaw12_SolveOnes.j3 k y0 y1 y2 y3) (gimballaw12_SolveOnes.j3 (k + 1) y0 y1 y2 y3)) ∧ (∀ y0 y1 y2 y3 y4, LeO (gimballaw12_SolveOnes.l1 k y0 y1 y2 y3 y4) (gimballaw12_SolveOnes.l1 (k + 1) y0 y1 y2 y3 y4))
 | 0 => ⟨fun _ _ _ _ r h => by simp [gimballaw12_SolveOnes.j0] at h, fun _ _ _ _ _ _ _ _ _ _ _ r h => by simp [gimballaw12_SolveOnes.l0] at h, fun _ _ _ _ _ _ _ _ _ _ _ _ r h => by simp [gimballaw12_SolveOnes.j2] at h, fun _ _ _ _ r h => by simp [gimballaw12_SolveOnes.j3] at h, fun _ _ _ _ _ r h => by simp [gimballaw12_SolveOnes.l1] at h⟩
 | k + 1 => by
  obtain ⟨ih0, ih1, ih2, ih3, ih4⟩ := gimballaw12_SolveOnes.mono_l k
  refine ⟨?_, ?_, ?_, ?_, ?_⟩ <;> intros <;> (first | unfold gimballaw12_SolveOnes.j0 | unfold gimballaw12_SolveOnes.l0 | unfold gimballaw12_SolveOnes.j2 | unfold gimballaw12_SolveOnes.j3 | unfold gimballaw12_SolveOnes.l1) <;>
   repeat' with_reducible first | apply ih0 | apply ih1 | apply ih2 | apply ih3 | apply ih4 | apply dyad_Num_Near.mono | apply gimballaw12_head.mono | apply mat_One.mono | apply solve_Trmv_nil.mono | apply solve_Trsv_nil.mono | exact LeO.refl _ | exact LeO.none _ | refine LeO.ite ?_ ?_ | refine LeO.bind ?_ (fun _ => ?_)
theorem gimballaw12_SolveOnes.mono : ∀ a0 a1 a2 k, LeO (gimballaw12_SolveOnes.f k a0 a1 a2) (gimballaw12_SolveOnes.f (k + 1) a0 a1 a2) := by
 intro a0 a1 a2 k
 obtain ⟨ih0, ih1, ih2, ih3, ih4⟩ := gimballaw12_SolveOnes.mono_l k
 unfold gimballaw12_SolveOnes.f
 repeat' with_reducible first | apply ih0 | apply ih1 | apply ih2 | apply ih3 | apply ih4 | apply dyad_Num_Near.mono | apply gimballaw12_head.mono | apply mat_One.mono | apply solve_Trmv_nil.mono | apply solve_Trsv_nil.mono | exact LeO.refl _ | exact LeO.none _ | refine LeO.ite ?_ ?_ | refine LeO.bind ?_ (fun _ => ?_)
def gimballaw12_SolveOnes.T25 : Bool × List (List Nat × List Nat) := (true, [([], []), ([], []), ([0, 1], [0, 1]), ([2], [2]), ([], []), ([], []), ([4, 5], [4, 5]), ([6], [6]), ([3, 7], [3, 7]), ([8], [8]), ([9], [9]), ([9], [9]), ([10, 11, 9], [9, 10, 11]), ([12, 9], [9, 12]), ([13, 9, 9], [9, 13]), ([14, 9], [9, 14]), ([9, 15], [9, 15]), ([16, 14], [16]), ([17], [17]), ([17], [17]), ([18, 19, 17], [17, 18, 19]), ([20, 17], [17, 20]), ([17], [17]), ([17], [17]), ([22, 23, 17], [17, 22, 23]), ([24, 17], [17, 24]), ([21, 25, 17], [17, 21, 25]), ([26, 17, 17], [17, 26]), ([27], [27]), ([27], [27]), ([28, 29, 27], [27, 28, 29]), ([30, 27], [27, 30]), ([31, 27, 27], [27, 31]), ([32, 27], [27, 32]), ([27, 33, 17], [17, 27, 33]), ([17, 34], [17, 34])])
def gimballaw12_SolveOnes.B25 : List Nat := [0, 0, 3, 7, 0, 0, 48, 112, 255, 511, 1023, 1023, 4095, 8191, 16383, 32767, 65535, 131071, 262143, 262143, 1048575, 2097151, 262143, 262143, 12845055, 29622271, 67108863, 134217727, 268435455, 268435455, 1073741823, 2147483647, 4294967295, 8589934591, 17179869183, 34359738367]
theorem gimballaw12_SolveOnes.tab25 : rtab .any (opsOf Try.f4 25) = gimballaw12_SolveOnes.T25 := by kernel_rfl
theorem gimballaw12_SolveOnes.bits25 : waitsOk gimballaw12_SolveOnes.T25.2 gimballaw12_SolveOnes.B25 = true := by kernel_rfl
set_option maxHeartbeats 8000000 in
set_option maxRecDepth 100000 in
theorem gimballaw12_SolveOnes.calls (k : Nat) (A0 : Option Addr) (c0 : Nat) (l0 : List Int) (A1 : Option Addr) (c1 : Nat) (l1 : List Int) (a2 : Bool) (r : Bool) (w : World) (hr0 : Kd.C (Kd.int .u64) w A0 l0.length l0) (hc0 : l0.length ≤ c0) (hr1 : Kd.C (Kd.int .i64) w A1 l1.length l1) (hc1 : l1.length ≤ c1) (hLW : r = true) (h : gimballaw12_SolveOnes.f k l0 l1 a2 = some r) :
  Calls Try.prog 4 #[.slice A0 l0.length c0, .slice A1 l1.length c1, .bool a2] w fun e w' => e = .returned (.bool r) ∧ Below w.heap.size w w' := by
 have hu25 := Try.underlying25
 have HR0 := Aside0.mk hr0
 have HC0 := Aside0.mk hc0
 clear hr0 hc0
 have HR1 := Aside0.mk hr1
 have HC1 := Aside0.mk hc1
 clear hr1 hc1
 have HB := Aside0.mk (Below.refl w.heap.size w)
 have H : ((gimballaw12_head.f k).bind fun t498 => (if t498 = true then (if (l0.length : Int) > 12 then (gimballaw12_SolveOnes.j0 k l0 l1 a2 true) else (gimballaw12_SolveOnes.j0 k l0 l1 a2 (decide ((l1.length : Int) > 12)))) else (some false))) = some r := h
 clear h
 obtain ⟨t498, A40, H⟩ := Option.bind_eq_some_iff.mp H
 (try dsimp -simprocs only at H)
 have A4 := Aside0.mk A40
 clear A40
 by_cases c5 : t498 = true
 rotate_left
 ·
  replace c5 := Bool.eq_false_iff.mpr c5
  subst c5
  rw [if_neg (show ¬ (false = true) by decide)] at H
  rw [hLW] at H
  exact absurd H (by simp)

 subst c5
 rw [if_pos rfl] at H
 have HC6 := Aside0.mk H
 clear H
 go_enter Try.func4, Try.ntmps4
 go_upto_region 3 with (first | ((with_reducible refine gate_callee (f := 6) rfl ?_); refine goesL_ (some 20) rfl rfl Try.func6 (by kernel_rfl) rfl #[] rfl ga ?_; (with_reducible refine (gimballaw12_head.calls k  true _ A4.out).mono ?_); rintro e w7 ⟨rfl, hb⟩; refine ⟨_, rfl, ?_⟩; refine ax1 (below_step bel hb) ?_; clear HB; intro HB; (try clear hb)))
 (try simp only [Act.put, sa0, sa1, sa2])
 go_cut [29] (fun v29 wc => ∃ (kq : Nat) (x29_5 : Bool), v29 = .bool x29_5 ∧ Aside0 (gimballaw12_SolveOnes.j0 kq l0 l1 a2 x29_5 = some r) ∧ Aside0 (kq ≤ k) ∧ Aside0 (Below w.heap.size w wc))
 case first =>
  have H := HC6.out
  clear HC6
  by_cases c8 : (l0.length : Int) > 12
  rotate_left
  ·
   rw [if_neg c8] at H
   have c8b0 : decide (12 < (l0.length : Int)) = false := decide_eq_false c8
   have c8b1 : decide (12 < l0.length) = false := decide_eq_false (by omega)
   clear c8
   (first | rw [c8b0] | rw [c8b1] | (simp only [i64_w, i32_w]; first | rw [c8b0] | rw [c8b1]) | skip)
   have H' := Aside0.mk H
   clear H
   go_wp2
   go_meet
   case rel => exact ⟨_, (decide ((l1.length : Int) > 12)), (by first | rfl | (simp; done) | (simp [*]; done)), H', ⟨by first | omega | exact Nat.le_refl _⟩, ⟨bel⟩⟩
  rw [if_pos c8] at H
  have c8b0 : decide (12 < (l0.length : Int)) = true := decide_eq_true c8
  have c8b1 : decide (12 < l0.length) = true := decide_eq_true (by omega)
  clear c8
  (first | rw [c8b0] | rw [c8b1] | (simp only [i64_w, i32_w]; first | rw [c8b0] | rw [c8b1]) | skip)
  have H' := Aside0.mk H
  clear H
  go_wp2
  go_meet
  case rel => exact ⟨_, (true), (by first | rfl | (simp; done) | (simp [*]; done)), H', ⟨by first | omega | exact Nat.le_refl _⟩, ⟨bel⟩⟩
 case rest =>
  clear HC6
  try clear c1
  try clear p2
  try clear c4
  try clear c5
  try clear c6
  try clear c8
  try clear c8b0
  try clear c8b1
  obtain ⟨kq, x29_5, rfl, HA, HJ5, HB⟩ := hcut
  cases kq with
  | zero => exact absurd HA.out (by simp [gimballaw12_SolveOnes.j0])
  | succ kj5 =>
   have H := HA.out
   clear HA
   simp only [gimballaw12_SolveOnes.j0] at H
   by_cases c9 : x29_5 = true
   ·
    subst c9
    rw [if_pos rfl] at H
    obtain rfl := Option.some.inj H
    go_wp2
    go_ret
    exact ⟨er, bel⟩
   ·
    replace c9 := Bool.eq_false_iff.mpr c9
    subst c9
    rw [if_neg (show ¬ (false = true) by decide)] at H
    obtain ⟨⟨t499, t500, t501, t502⟩, A100, H⟩ := Option.bind_eq_some_iff.mp H
    (try dsimp -simprocs only at H)
    have A10 := Aside0.mk A100
    clear A100
    obtain ⟨⟨t505, t508⟩, A110, H⟩ := Option.bind_eq_some_iff.mp H
    (try dsimp -simprocs only at H)
    have A11 := Aside0.mk A110
    clear A110
    obtain ⟨⟨t509, t510, t511, t512⟩, A120, H⟩ := Option.bind_eq_some_iff.mp H
    (try dsimp -simprocs only at H)
    have A12 := Aside0.mk A120
    clear A120
    have H' := Aside0.mk H
    clear H
    go_wp2_with (first | ((with_reducible refine gate_callee (f := 16) rfl ?_); refine goesL_ (some 34) rfl rfl Try.func16 (by kernel_rfl) rfl #[.int .i64 (l0.length : Int)] rfl ga ?_; (with_reducible refine (mat_One.calls kj5 (l0.length : Int) t499 t500 t501 t502 _ A10.out).mono ?_); rintro e w13 ⟨v503, rfl, ho0, hb⟩; refine ⟨_, rfl, ?_⟩; refine ax2 (Kd.R_lower ho0 (below_size bel)) (below_step bel hb) ?_; clear HB; intro HO504 HB; (try clear hb); (try clear ho0); obtain ⟨Ao14, co14, eo14⟩ := Kd.R_slice HO504.out; subst eo14) | ((with_reducible refine gate_callee (f := 9) rfl ?_); refine goesL_ (some 37) rfl rfl Try.func9 (by kernel_rfl) rfl #[.pointer none, .agg #[.int .i64 t499, .int .i64 t500, .int .i64 t501, .slice Ao14 t502.length co14], .bool a2, .bool false, .slice A0 l0.length c0] rfl ga ?_; (with_reducible refine (solve_Trsv_nil.calls kj5  t499 t500 t501 _ _ t502 a2 false _ _ l0 t505 t508 _ ?side1 ?side2 ?side3 ?side4 A11.out).mono ?_); (case side1 => exact ks HO504); (case side2 => exact (Kd.R_reads' HO504.out).2.1); (case side3 => repeat (first | exact (Kd.C_below HR0.out HB.out) | (with_reducible refine Kd.C_alloc ?_ _) | (with_reducible refine Kd.C_drewN ?_ _) | (with_reducible refine Kd.C_drew ?_))); (case side4 => exact HC0.out); rintro e w15 ⟨v506, rfl, ho0, hb⟩; refine ⟨_, rfl, ?_⟩; refine ax3 (Kd.R_elder' (kr HO504) (Kd.R_base ho0) hb) (Kd.R_lower (Kd.R_new' ho0 (Kd.R_lt (kr HO504))) (below_size bel)) (below_step bel hb) ?_; clear HO504; clear HB; intro HO504 HO507 HB; (try clear hb); (try clear ho0)) | ((with_reducible refine gate_callee (f := 17) rfl ?_); refine goesL_ (some 42) rfl rfl Try.func17 (by kernel_rfl) rfl #[.int .i64 (l0.length : Int), .int .i64 (l0.length : Int)] rfl ga ?_; (with_reducible refine (mat_New.calls (l0.length : Int) (l0.length : Int) t509 t510 t511 t512 _ A12.out).mono ?_); rintro e w16 ⟨v513, rfl, ho0, hb⟩; refine ⟨_, rfl, ?_⟩; refine ax4 (Kd.R_elder' (kr HO504) (Kd.R_base ho0) hb) (Kd.R_elder' (kr HO507) (Kd.R_base ho0) hb) (Kd.R_lower (Kd.R_new' (Kd.R_new' ho0 (Kd.R_lt (kr HO504))) (Kd.R_lt (kr HO507))) (below_size bel)) (below_step bel hb) ?_; clear HO504; clear HO507; clear HB; intro HO504 HO507 HO514 HB; (try clear hb); (try clear ho0)) | ((with_reducible refine gate_dst (N := 10) rfl ?_); refine gbox (N := 10) (cs := #[.int .i64 0, .int .i64 0, .int .i64 0, .slice none 0 0]) (t := 25) ?_; intro gb515 hg w17 hbox hb; refine ax7 (Kd.R_below (kr HO504) hb) (Kd.R_below (kr HO507) hb) (Kd.R_below (kr HO514) hb) (below_step bel hb) hbox ((ge hg : w.heap.size ≤ gb515)) ((ge hg : w.heap.size ≤ gb515)) ?_; clear HO504; clear HO507; clear HO514; clear HB; intro HO504 HO507 HO514 HB BK515 GW515 GE515; clear hb hbox hg; have hcz18_0 := bc BK515 0 rfl; have hcz18_1 := bc BK515 1 rfl; have hcz18_2 := bc BK515 2 rfl; have hcz18_3 := bc BK515 3 rfl; have hfz18_0 := blk_frozen BK515.out 0; have hfz18_1 := blk_frozen BK515.out 1; have hfz18_2 := blk_frozen BK515.out 2; have hfz18_3 := blk_frozen BK515.out 3; obtain ⟨Ao19, co19, eo19⟩ := Kd.R_slice HO514.out; subst eo19))
    go_loopg [11] kj5 (fun kq v11 w' => ∃ (x8_2 : List Int) (x11_2 : Int) (x516003_2 : List Int) (u516003 : Value), v11 = .int .i64 x11_2 ∧ Aside0 (gimballaw12_SolveOnes.l0 kq l0 l1 a2 (l0.length : Int) x8_2 t508 x11_2 t509 t510 t511 x516003_2 = some r) ∧ Aside0 (kq ≤ kj5) ∧ Aside0 (Kd.R (Kd.int .u64) 35 w' w.heap.size (fun k_ => some k_ ≠ (u516003 : Value).ownBlock) v506 x8_2) ∧ Aside0 (Kd.R (Kd.int .u64) 35 w' w.heap.size (fun k_ => some k_ ≠ (v506 : Value).ownBlock) u516003 x516003_2) ∧ Aside0 (w'.heap[gb515]? = some (.cells #[.int .i64 t509, .int .i64 t510, .int .i64 t511, u516003] 25 (0, 0))) ∧ Aside0 (Below w.heap.size w w'))
    case atStart => exact ⟨(t505), (0), (t512), (.slice Ao19 t512.length co19), (by first | rfl | (simp; done) | (simp [*]; done)), H', ⟨Nat.le_refl _⟩, ⟨by (with_reducible repeat (first | apply Kd.R_alloc | apply Kd.R_drewN | apply Kd.R_drew)); exact Kd.R_mono (Kd.R_far (p := ⟨gb515, 3, none⟩) (Kd.R_far (p := ⟨gb515, 2, none⟩) (Kd.R_far (p := ⟨gb515, 1, none⟩) (Kd.R_far (p := ⟨gb515, 0, none⟩) (Kd.R_types HO507.out BK515.out (by decide)) (fun _ hk => hk.2) (.int .i64 t509)) (fun _ hk => hk.2) (.int .i64 t510)) (fun _ hk => hk.2) (.int .i64 t511)) (fun _ hk => hk.2) (.slice Ao19 t512.length co19)) (fun _ hk => hk.1.2)⟩, ⟨by (with_reducible repeat (first | apply Kd.R_alloc | apply Kd.R_drewN | apply Kd.R_drew)); exact Kd.R_mono (Kd.R_far (p := ⟨gb515, 3, none⟩) (Kd.R_far (p := ⟨gb515, 2, none⟩) (Kd.R_far (p := ⟨gb515, 1, none⟩) (Kd.R_far (p := ⟨gb515, 0, none⟩) (Kd.R_types HO514.out BK515.out (by decide)) (fun _ hk => hk.2) (.int .i64 t509)) (fun _ hk => hk.2) (.int .i64 t510)) (fun _ hk => hk.2) (.int .i64 t511)) (fun _ hk => hk.2) (.slice Ao19 t512.length co19)) (fun _ hk => hk.1.2)⟩, ⟨bp BK515⟩, ⟨bes⟩⟩
    case round =>
     clear H'
     try clear c1
     try clear p2
     try clear c4
     try clear c5
     try clear c6
     try clear c7
     try clear c8
     try clear c8b0
     try clear c8b1
     try clear c9
     try clear c16
     try clear c17
     try clear hcz18_0
     try clear hcz18_1
     try clear hcz18_2
     try clear hcz18_3
     try clear hfz18_0
     try clear hfz18_1
     try clear hfz18_2
     try clear hfz18_3
     try clear p2
     obtain ⟨x8_2, x11_2, x516003_2, u516003, rfl, HA, HK2, HO_8, HO_516003, BK515, HB⟩ := hrel
     cases gk with
     | zero => exact absurd HA.out (by simp [gimballaw12_SolveOnes.l0])
     | succ k2 =>
      have H := HA.out
      clear HA
      simp only [gimballaw12_SolveOnes.l0] at H
      by_cases c20 : x11_2 < (l0.length : Int)
      ·
       rw [if_pos c20] at H
       have c20b0 : decide (x11_2 < (l0.length : Int)) = true := decide_eq_true c20
       clear c20
       have HC21 := Aside0.mk H
       clear H
       go_upto_if 50 with (fail)
       go_cut [12] (fun v12 wc => ∃ (kq : Nat) (x12_20 : Int), v12 = .int .i64 x12_20 ∧ Aside0 (gimballaw12_SolveOnes.j2 kq l0 l1 a2 (l0.length : Int) x8_2 t508 x11_2 x12_20 t509 t510 t511 x516003_2 = some r) ∧ Aside0 (kq ≤ k2) ∧ Aside0 (Kd.R (Kd.int .u64) 35 wc w.heap.size (fun k_ => some k_ ≠ (u516003 : Value).ownBlock) v506 x8_2) ∧ Aside0 (Kd.R (Kd.int .u64) 35 wc w.heap.size (fun k_ => some k_ ≠ (v506 : Value).ownBlock) u516003 x516003_2) ∧ Aside0 (wc.heap[gb515]? = some (.cells #[.int .i64 t509, .int .i64 t510, .int .i64 t511, u516003] 25 (0, 0))) ∧ Aside0 (Below w.heap.size w wc))
       case first =>
        have H := HC21.out
        clear HC21
        by_cases c22 : (l1.length : Int) > 0
        rotate_left
        ·
         rw [if_neg c22] at H
         have c22b0 : decide (0 < (l1.length : Int)) = false := decide_eq_false c22
         have c22b1 : decide (0 < l1.length) = false := decide_eq_false (by omega)
         clear c22
         (first | rw [c22b0] | rw [c22b1] | (simp only [i64_w, i32_w]; first | rw [c22b0] | rw [c22b1]) | skip)
         have H' := Aside0.mk H
         clear H
         go_wp2
         go_meet
         case rel => exact ⟨_, (0), (by first | rfl | (simp; done) | (simp [*]; done)), H', ⟨by have := HJ5.out; have := HK2.out; first | omega | exact Nat.le_refl _⟩, ⟨kr HO_8⟩, ⟨kr HO_516003⟩, ⟨kb BK515⟩, ⟨bes⟩⟩
        rw [if_pos c22] at H
        have c22b0 : decide (0 < (l1.length : Int)) = true := decide_eq_true c22
        have c22b1 : decide (0 < l1.length) = true := decide_eq_true (by omega)
        clear c22
        (first | rw [c22b0] | rw [c22b1] | (simp only [i64_w, i32_w]; first | rw [c22b0] | rw [c22b1]) | skip)
        by_cases c23 : (l1.length : Int) = 0
        ·
         rw [if_pos c23] at H
         exact absurd H (by simp)
        ·
         rw [if_neg c23] at H
         have c23b0 : ((l1.length : Int) == 0) = false := beq_eq_false_iff_ne.mpr c23
         have c23b1 : ((l1.length : Int) != 0) = true := bne_iff_ne.mpr c23
         have c23b2 : ¬ (l1 = []) := fun h_ => c23 (by rw [h_]; rfl)
         obtain ⟨ji24, hji24⟩ : ∃ j_ : Int, (Int.tmod x11_2 (l1.length : Int)) = j_ := ⟨_, rfl⟩
         replace H : (if 0 ≤ (ji24) then (if (ji24) < (l1.length : Int) then (gimballaw12_SolveOnes.j2 k2 l0 l1 a2 (l0.length : Int) x8_2 t508 x11_2 (wrap64 ((Go.bits .and .i64 (rd l1 (ji24)) 63) - 32)) t509 t510 t511 x516003_2) else (none)) else (none)) = some r := by first | (rw [hji24] at H; exact H) | (simp only [hji24] at H ⊢; exact H)
         by_cases c25 : 0 ≤ (ji24)
         rotate_left
         ·
          rw [if_neg c25] at H
          exact absurd H (by simp)
         rw [if_pos c25] at H
         have c25b0 : decide (0 ≤ (ji24)) = true := decide_eq_true c25
         clear c25
         by_cases c26 : (ji24) < (l1.length : Int)
         rotate_left
         ·
          rw [if_neg c26] at H
          exact absurd H (by simp)
         rw [if_pos c26] at H
         have c26b0 : decide ((ji24) < (l1.length : Int)) = true := decide_eq_true c26
         clear c26
         have H' := Aside0.mk H
         clear H
         have p516 : 0 ≤ ((ji24) : Int) := of_decide_eq_true (by first | (with_reducible assumption) | assumption)
         have q516 : (ji24) < (l1.length : Int) := of_decide_eq_true (by first | (with_reducible assumption) | assumption)
         obtain ⟨ad516, e516, hx516_0⟩ := Kd.at_int HR1.out (ji24) p516 q516
         cases e516
         replace hx516_0 := (HB.out.cell (World.block_lt_of_cell? w _ hx516_0)).trans hx516_0
         replace p516 := eq_true p516
         replace q516 := eq_true q516
         go_wp2
         go_meet
         case rel => exact ⟨_, (wrap64 ((Go.bits .and .i64 (rd l1 (ji24)) 63) - 32)), (by first | rfl | (simp; done) | (simp only [← hji24] <;> (first | rfl | simp)) | (simp [*]; done)), H', ⟨by have := HJ5.out; have := HK2.out; first | omega | exact Nat.le_refl _⟩, ⟨kr HO_8⟩, ⟨kr HO_516003⟩, ⟨kb BK515⟩, ⟨bes⟩⟩
       case rest =>
        clear HC21
        try clear c1
        try clear c2
        try clear p2
        try clear c4
        try clear c5
        try clear p5
        try clear q5
        try clear hx5
        try clear c6
        try clear p6
        try clear c7
        try clear c8
        try clear c8b0
        try clear c8b1
        try clear c9
        try clear c16
        try clear c17
        try clear c20
        try clear c20b0
        try clear c22
        try clear c22b0
        try clear c22b1
        try clear c23
        try clear c23b0
        try clear c23b1
        try clear c23b2
        try clear c25
        try clear c25b0
        try clear c26
        try clear c26b0
        try clear hcz18_0
        try clear hcz18_1
        try clear hcz18_2
        try clear hcz18_3
        try clear hfz18_0
        try clear hfz18_1
        try clear hfz18_2
        try clear hfz18_3
        try clear hx516_0
        try clear p2
        try clear p516
        try clear q516
        obtain ⟨kq, x12_20, rfl, HA, HJ20, HO_8, HO_516003, BK515, HB⟩ := hcut
        cases kq with
        | zero => exact absurd HA.out (by simp [gimballaw12_SolveOnes.j2])
        | succ kj20 =>
         have H := HA.out
         clear HA
         simp only [gimballaw12_SolveOnes.j2] at H
         obtain ⟨⟨t517, t518, t521⟩, A270, H⟩ := Option.bind_eq_some_iff.mp H
         (try dsimp -simprocs only at H)
         have A27 := Aside0.mk A270
         clear A270
         obtain ⟨⟨t522, t523⟩, A280, H⟩ := Option.bind_eq_some_iff.mp H
         (try dsimp -simprocs only at H)
         have A28 := Aside0.mk A280
         clear A280
         obtain ⟨t524, A290, H⟩ := Option.bind_eq_some_iff.mp H
         (try dsimp -simprocs only at H)
         have A29 := Aside0.mk A290
         clear A290
         by_cases c30 : 0 ≤ x11_2
         rotate_left
         ·
          rw [if_neg c30] at H
          exact absurd H (by simp)
         rw [if_pos c30] at H
         have c30b0 : decide (0 ≤ x11_2) = true := decide_eq_true c30
         clear c30
         by_cases c31 : x11_2 < (l0.length : Int)
         rotate_left
         ·
          rw [if_neg c31] at H
          exact absurd H (by simp)
         rw [if_pos c31] at H
         have c31b0 : decide (x11_2 < (l0.length : Int)) = true := decide_eq_true c31
         clear c31
         obtain ⟨t526, A320, H⟩ := Option.bind_eq_some_iff.mp H
         (try dsimp -simprocs only at H)
         have A32 := Aside0.mk A320
         clear A320
         by_cases c33 : t526 = true
         rotate_left
         ·
          replace c33 := Bool.eq_false_iff.mpr c33
          subst c33
          rw [if_neg (show ¬ (false = true) by decide)] at H
          obtain rfl := Option.some.inj H
          go_wp2_with (first | ((with_reducible refine gate_callee (f := 18) rfl ?_); refine goesL_ (some 62) rfl rfl Try.func18 (by kernel_rfl) rfl #[.int .i64 x12_20] rfl ga ?_; (with_reducible refine (dyad_Two.calls x12_20 t517 t518 t521 _ A27.out).mono ?_); rintro e w63 ⟨v519, rfl, ho0, hb⟩; refine ⟨_, rfl, ?_⟩; refine ax4 (Kd.R_below (kr HO_516003) hb) (Kd.R_lower ho0 (below_size bes)) (bb BK515 hb) (below_step bes hb) ?_; clear HO_516003; clear BK515; clear HB; intro HO_516003 HO520 BK515 HB; (try clear hb); (try clear ho0); obtain ⟨Ao64, co64, eo64⟩ := Kd.R_slice HO520.out; subst eo64) | ((with_reducible refine gate_callee (f := 19) rfl ?_); refine goesL_ (some 63) rfl rfl Try.func19 (by kernel_rfl) rfl #[.agg #[.bool t517, .slice Ao64 t518.length co64, .int .i64 t521]] rfl ga ?_; (with_reducible refine (dyad_Num_Near.calls kj20 t517 _ _ t518 t521 t522 t523 _ ?side1 ?side2 A28.out).mono ?_); (case side1 => exact ks HO520); (case side2 => exact (Kd.R_reads' HO520.out).2.1); rintro e w65 ⟨rfl, hb⟩; refine ⟨_, rfl, ?_⟩; refine ax4 (Kd.R_below (kr HO_516003) hb) (Kd.R_below (kr HO520) hb) (bb BK515 hb) (below_step bes hb) ?_; clear HO_516003; clear HO520; clear BK515; clear HB; intro HO_516003 HO520 BK515 HB; (try clear hb); have hcz66_0 := bc BK515 0 rfl; have hcz66_1 := bc BK515 1 rfl; have hcz66_2 := bc BK515 2 rfl; have hcz66_3 := bc BK515 3 rfl; have hfz66_0 := blk_frozen BK515.out 0; have hfz66_1 := blk_frozen BK515.out 1; have hfz66_2 := blk_frozen BK515.out 2; have hfz66_3 := blk_frozen BK515.out 3; obtain ⟨Ao67, co67, eo67⟩ := Kd.R_slice HO_516003.out; subst eo67) | ((with_reducible refine gate_callee (f := 20) rfl ?_); refine goesL_ (some 70) rfl rfl Try.func20 (by kernel_rfl) rfl #[.agg #[.int .i64 t509, .int .i64 t510, .int .i64 t511, .slice Ao67 x516003_2.length co67], .int .i64 x11_2, .int .i64 x11_2, .int .u64 t522] rfl ga ?_; (with_reducible refine (mat_Matrix_Set.calls t509 t510 t511 (fun k_ => some k_ = (.slice Ao67 x516003_2.length co67 : Value).ownBlock) (.slice Ao67 x516003_2.length co67) x516003_2 x11_2 x11_2 t522 t524 w _ ?side1 ?side2 A29.out).mono ?_); (case side1 => repeat (first | (with_reducible first | exact HB.out | apply below_alloc | apply pw_below_drewN | apply below_drew1) | exact HB.out)); (case side2 => exact Kd.R_tight rfl HO_516003.out); rintro e w68 ⟨rfl, hy0, hb, hkp⟩; refine ⟨_, rfl, ?_⟩; refine ax2 (Kd.R_reok rfl hy0 (fun k_ e_ => HO_516003.out.1 k_ e_)) hb ?_; clear HO_516003; clear HB; intro HO_516003 HB; (try clear hb); (try clear hkp); (try clear hy0); have p525 : 0 ≤ (x11_2 : Int) := of_decide_eq_true (by first | (with_reducible assumption) | assumption); have q525 : x11_2 < (l0.length : Int) := of_decide_eq_true (by first | (with_reducible assumption) | assumption); obtain ⟨ad525, e525, hx525_0⟩ := Kd.at_int HR0.out x11_2 p525 q525; cases e525; replace hx525_0 := (HB.out.cell (World.block_lt_of_cell? w _ hx525_0)).trans hx525_0; replace p525 := eq_true p525; replace q525 := eq_true q525) | ((with_reducible refine gate_callee (f := 21) rfl ?_); refine goesL_ (some 75) rfl rfl Try.func21 (by kernel_rfl) rfl #[.int .u64 (rd l0 x11_2)] rfl ga ?_; (with_reducible refine (word_Finite.calls (rd l0 x11_2) false _ A32.out).mono ?_); rintro e w' ⟨rfl, ⟨nd, rfl⟩⟩; refine ⟨_, rfl, ?_⟩))
          go_ret
          exact ⟨er, bel⟩
         subst c33
         rw [if_pos rfl] at H
         obtain ⟨t528, A340, H⟩ := Option.bind_eq_some_iff.mp H
         (try dsimp -simprocs only at H)
         have A34 := Aside0.mk A340
         clear A340
         by_cases c35 : t528 = 0
         ·
          rw [if_pos c35] at H
          have c35b0 : (t528 == 0) = true := beq_iff_eq.mpr c35
          have c35b1 : (t528 != 0) = false := bne_eq_false_iff_eq.mpr c35
          clear c35
          have H' := Aside0.mk H
          clear H
          go_wp2_with (first | ((with_reducible refine gate_callee (f := 18) rfl ?_); refine goesL_ (some 62) rfl rfl Try.func18 (by kernel_rfl) rfl #[.int .i64 x12_20] rfl ga ?_; (with_reducible refine (dyad_Two.calls x12_20 t517 t518 t521 _ A27.out).mono ?_); rintro e w36 ⟨v519, rfl, ho0, hb⟩; refine ⟨_, rfl, ?_⟩; refine ax5 (Kd.R_below (kr HO_8) hb) (Kd.R_below (kr HO_516003) hb) (Kd.R_lower ho0 (below_size bes)) (bb BK515 hb) (below_step bes hb) ?_; clear HO_8; clear HO_516003; clear BK515; clear HB; intro HO_8 HO_516003 HO520 BK515 HB; (try clear hb); (try clear ho0); obtain ⟨Ao37, co37, eo37⟩ := Kd.R_slice HO520.out; subst eo37) | ((with_reducible refine gate_callee (f := 19) rfl ?_); refine goesL_ (some 63) rfl rfl Try.func19 (by kernel_rfl) rfl #[.agg #[.bool t517, .slice Ao37 t518.length co37, .int .i64 t521]] rfl ga ?_; (with_reducible refine (dyad_Num_Near.calls kj20 t517 _ _ t518 t521 t522 t523 _ ?side1 ?side2 A28.out).mono ?_); (case side1 => exact ks HO520); (case side2 => exact (Kd.R_reads' HO520.out).2.1); rintro e w38 ⟨rfl, hb⟩; refine ⟨_, rfl, ?_⟩; refine ax5 (Kd.R_below (kr HO_8) hb) (Kd.R_below (kr HO_516003) hb) (Kd.R_below (kr HO520) hb) (bb BK515 hb) (below_step bes hb) ?_; clear HO_8; clear HO_516003; clear HO520; clear BK515; clear HB; intro HO_8 HO_516003 HO520 BK515 HB; (try clear hb); have hcz39_0 := bc BK515 0 rfl; have hcz39_1 := bc BK515 1 rfl; have hcz39_2 := bc BK515 2 rfl; have hcz39_3 := bc BK515 3 rfl; have hfz39_0 := blk_frozen BK515.out 0; have hfz39_1 := blk_frozen BK515.out 1; have hfz39_2 := blk_frozen BK515.out 2; have hfz39_3 := blk_frozen BK515.out 3; obtain ⟨Ao40, co40, eo40⟩ := Kd.R_slice HO_516003.out; subst eo40) | ((with_reducible refine gate_callee (f := 20) rfl ?_); refine goesL_ (some 70) rfl rfl Try.func20 (by kernel_rfl) rfl #[.agg #[.int .i64 t509, .int .i64 t510, .int .i64 t511, .slice Ao40 x516003_2.length co40], .int .i64 x11_2, .int .i64 x11_2, .int .u64 t522] rfl ga ?_; (with_reducible refine (mat_Matrix_Set.calls t509 t510 t511 (fun k_ => some k_ = (.slice Ao40 x516003_2.length co40 : Value).ownBlock) (.slice Ao40 x516003_2.length co40) x516003_2 x11_2 x11_2 t522 t524 w _ ?side1 ?side2 A29.out).mono ?_); (case side1 => repeat (first | (with_reducible first | exact HB.out | apply below_alloc | apply pw_below_drewN | apply below_drew1 | refine below_set ?_ GE515.out) | exact HB.out)); (case side2 => exact Kd.R_tight rfl HO_516003.out); rintro e w41 ⟨rfl, hy0, hb, hkp⟩; refine ⟨_, rfl, ?_⟩; refine ax5 (Kd.R_mono (ok' := fun k_ => some k_ ≠ (.slice Ao40 x516003_2.length co40 : Value).ownBlock) (Kd.R_keptB (HO_8.out) hkp (fun k_ hk_ hs_ => (hk_) hs_)) (fun k_ hk_ => hk_.1)) (Kd.R_reok rfl hy0 (fun k_ e_ => HO_516003.out.1 k_ e_)) (blk_kept (kb BK515) hkp (fun hs_ => (fun e_ => (Kd.R_ne HO_516003.out BK515.out (by decide)) e_) hs_)) (Kd.R_mono (ok' := fun k_ => True) (Kd.R_keptB ((Kd.R_apart' HO520.out (Kd.R_typed HO_516003.out) (by decide))) hkp (fun k_ hk_ hs_ => (hk_.2) hs_)) (fun k_ hk_ => trivial)) hb ?_; clear HO_8; clear HO_516003; clear BK515; clear HO520; clear HB; intro HO_8 HO_516003 BK515 HO520 HB; (try clear hb); (try clear hkp); (try clear hy0); have p525 : 0 ≤ (x11_2 : Int) := of_decide_eq_true (by first | (with_reducible assumption) | assumption); have q525 : x11_2 < (l0.length : Int) := of_decide_eq_true (by first | (with_reducible assumption) | assumption); obtain ⟨ad525, e525, hx525_0⟩ := Kd.at_int HR0.out x11_2 p525 q525; cases e525; replace hx525_0 := (HB.out.cell (World.block_lt_of_cell? w _ hx525_0)).trans hx525_0; replace p525 := eq_true p525; replace q525 := eq_true q525) | ((with_reducible refine gate_callee (f := 21) rfl ?_); refine goesL_ (some 75) rfl rfl Try.func21 (by kernel_rfl) rfl #[.int .u64 (rd l0 x11_2)] rfl ga ?_; (with_reducible refine (word_Finite.calls (rd l0 x11_2) true _ A32.out).mono ?_); rintro e w' ⟨rfl, ⟨nd, rfl⟩⟩; refine ⟨_, rfl, ?_⟩; have p527 : 0 ≤ (x11_2 : Int) := of_decide_eq_true (by first | (with_reducible assumption) | assumption); have q527 : x11_2 < (l0.length : Int) := of_decide_eq_true (by first | (with_reducible assumption) | assumption); obtain ⟨ad527, e527, hx527_0⟩ := Kd.at_int HR0.out x11_2 p527 q527; obtain rfl : ad525 = ad527 := (by injection e527); replace hx527_0 := (HB.out.cell (World.block_lt_of_cell? w _ hx527_0)).trans hx527_0; replace p527 := eq_true p527; replace q527 := eq_true q527) | (go_at_call 10; (with_reducible refine (word_Abs.calls (rd l0 x11_2) t528 _ A34.out).mono ?_); rintro e w' ⟨rfl, ⟨nd, rfl⟩⟩))
          go_roundg kj20
          case measure => have := HJ5.out; have := HK2.out; have := HJ20.out; omega
          case rel => exact ⟨(x8_2), (wrap64 (x11_2 + 1)), (t524), (.slice Ao40 x516003_2.length co40), (by first | rfl | (simp; done) | (simp [*]; done)), H', ⟨by have := HJ5.out; have := HK2.out; have := HJ20.out; omega⟩, ⟨kr HO_8⟩, ⟨kr HO_516003⟩, ⟨kb BK515⟩, ⟨bes⟩⟩
         ·
          rw [if_neg c35] at H
          have c35b0 : (t528 == 0) = false := beq_eq_false_iff_ne.mpr c35
          have c35b1 : (t528 != 0) = true := bne_iff_ne.mpr c35
          obtain ⟨t530, A420, H⟩ := Option.bind_eq_some_iff.mp H
          (try dsimp -simprocs only at H)
          have A42 := Aside0.mk A420
          clear A420
          by_cases c43 : t530 < 100
          ·
           rw [if_pos c43] at H
           have c43b0 : decide (t530 < 100) = true := decide_eq_true c43
           clear c43
           obtain rfl := Option.some.inj H
           go_wp2_with (first | ((with_reducible refine gate_callee (f := 18) rfl ?_); refine goesL_ (some 62) rfl rfl Try.func18 (by kernel_rfl) rfl #[.int .i64 x12_20] rfl ga ?_; (with_reducible refine (dyad_Two.calls x12_20 t517 t518 t521 _ A27.out).mono ?_); rintro e w44 ⟨v519, rfl, ho0, hb⟩; refine ⟨_, rfl, ?_⟩; refine ax4 (Kd.R_below (kr HO_516003) hb) (Kd.R_lower ho0 (below_size bes)) (bb BK515 hb) (below_step bes hb) ?_; clear HO_516003; clear BK515; clear HB; intro HO_516003 HO520 BK515 HB; (try clear hb); (try clear ho0); obtain ⟨Ao45, co45, eo45⟩ := Kd.R_slice HO520.out; subst eo45) | ((with_reducible refine gate_callee (f := 19) rfl ?_); refine goesL_ (some 63) rfl rfl Try.func19 (by kernel_rfl) rfl #[.agg #[.bool t517, .slice Ao45 t518.length co45, .int .i64 t521]] rfl ga ?_; (with_reducible refine (dyad_Num_Near.calls kj20 t517 _ _ t518 t521 t522 t523 _ ?side1 ?side2 A28.out).mono ?_); (case side1 => exact ks HO520); (case side2 => exact (Kd.R_reads' HO520.out).2.1); rintro e w46 ⟨rfl, hb⟩; refine ⟨_, rfl, ?_⟩; refine ax4 (Kd.R_below (kr HO_516003) hb) (Kd.R_below (kr HO520) hb) (bb BK515 hb) (below_step bes hb) ?_; clear HO_516003; clear HO520; clear BK515; clear HB; intro HO_516003 HO520 BK515 HB; (try clear hb); have hcz47_0 := bc BK515 0 rfl; have hcz47_1 := bc BK515 1 rfl; have hcz47_2 := bc BK515 2 rfl; have hcz47_3 := bc BK515 3 rfl; have hfz47_0 := blk_frozen BK515.out 0; have hfz47_1 := blk_frozen BK515.out 1; have hfz47_2 := blk_frozen BK515.out 2; have hfz47_3 := blk_frozen BK515.out 3; obtain ⟨Ao48, co48, eo48⟩ := Kd.R_slice HO_516003.out; subst eo48) | ((with_reducible refine gate_callee (f := 20) rfl ?_); refine goesL_ (some 70) rfl rfl Try.func20 (by kernel_rfl) rfl #[.agg #[.int .i64 t509, .int .i64 t510, .int .i64 t511, .slice Ao48 x516003_2.length co48], .int .i64 x11_2, .int .i64 x11_2, .int .u64 t522] rfl ga ?_; (with_reducible refine (mat_Matrix_Set.calls t509 t510 t511 (fun k_ => some k_ = (.slice Ao48 x516003_2.length co48 : Value).ownBlock) (.slice Ao48 x516003_2.length co48) x516003_2 x11_2 x11_2 t522 t524 w _ ?side1 ?side2 A29.out).mono ?_); (case side1 => repeat (first | (with_reducible first | exact HB.out | apply below_alloc | apply pw_below_drewN | apply below_drew1) | exact HB.out)); (case side2 => exact Kd.R_tight rfl HO_516003.out); rintro e w49 ⟨rfl, hy0, hb, hkp⟩; refine ⟨_, rfl, ?_⟩; refine ax2 (Kd.R_reok rfl hy0 (fun k_ e_ => HO_516003.out.1 k_ e_)) hb ?_; clear HO_516003; clear HB; intro HO_516003 HB; (try clear hb); (try clear hkp); (try clear hy0); have p525 : 0 ≤ (x11_2 : Int) := of_decide_eq_true (by first | (with_reducible assumption) | assumption); have q525 : x11_2 < (l0.length : Int) := of_decide_eq_true (by first | (with_reducible assumption) | assumption); obtain ⟨ad525, e525, hx525_0⟩ := Kd.at_int HR0.out x11_2 p525 q525; cases e525; replace hx525_0 := (HB.out.cell (World.block_lt_of_cell? w _ hx525_0)).trans hx525_0; replace p525 := eq_true p525; replace q525 := eq_true q525) | ((with_reducible refine gate_callee (f := 21) rfl ?_); refine goesL_ (some 75) rfl rfl Try.func21 (by kernel_rfl) rfl #[.int .u64 (rd l0 x11_2)] rfl ga ?_; (with_reducible refine (word_Finite.calls (rd l0 x11_2) true _ A32.out).mono ?_); rintro e w' ⟨rfl, ⟨nd, rfl⟩⟩; refine ⟨_, rfl, ?_⟩; have p527 : 0 ≤ (x11_2 : Int) := of_decide_eq_true (by first | (with_reducible assumption) | assumption); have q527 : x11_2 < (l0.length : Int) := of_decide_eq_true (by first | (with_reducible assumption) | assumption); obtain ⟨ad527, e527, hx527_0⟩ := Kd.at_int HR0.out x11_2 p527 q527; obtain rfl : ad525 = ad527 := (by injection e527); replace hx527_0 := (HB.out.cell (World.block_lt_of_cell? w _ hx527_0)).trans hx527_0; replace p527 := eq_true p527; replace q527 := eq_true q527) | (go_at_call 10; (with_reducible refine (word_Abs.calls (rd l0 x11_2) t528 _ A34.out).mono ?_); rintro e w' ⟨rfl, ⟨nd, rfl⟩⟩; have p529 : 0 ≤ (x11_2 : Int) := of_decide_eq_true (by first | (with_reducible assumption) | assumption); have q529 : x11_2 < (l0.length : Int) := of_decide_eq_true (by first | (with_reducible assumption) | assumption); obtain ⟨ad529, e529, hx529_0⟩ := Kd.at_int HR0.out x11_2 p529 q529; obtain rfl : ad525 = ad529 := (by injection e529); replace hx529_0 := (HB.out.cell (World.block_lt_of_cell? w _ hx529_0)).trans hx529_0; replace p529 := eq_true p529; replace q529 := eq_true q529) | (go_at_call 22; (with_reducible refine (word_Exp.calls (rd l0 x11_2) t530 _ A42.out).mono ?_); rintro e w' ⟨rfl, ⟨nd, rfl⟩⟩))
           go_ret
           exact ⟨er, bel⟩
          ·
           rw [if_neg c43] at H
           have c43b0 : decide (t530 < 100) = false := decide_eq_false c43
           clear c43
           by_cases c50 : t530 > 1900
           ·
            rw [if_pos c50] at H
            have c50b0 : decide (1900 < t530) = true := decide_eq_true c50
            clear c50
            obtain rfl := Option.some.inj H
            go_wp2_with (first | ((with_reducible refine gate_callee (f := 18) rfl ?_); refine goesL_ (some 62) rfl rfl Try.func18 (by kernel_rfl) rfl #[.int .i64 x12_20] rfl ga ?_; (with_reducible refine (dyad_Two.calls x12_20 t517 t518 t521 _ A27.out).mono ?_); rintro e w51 ⟨v519, rfl, ho0, hb⟩; refine ⟨_, rfl, ?_⟩; refine ax4 (Kd.R_below (kr HO_516003) hb) (Kd.R_lower ho0 (below_size bes)) (bb BK515 hb) (below_step bes hb) ?_; clear HO_516003; clear BK515; clear HB; intro HO_516003 HO520 BK515 HB; (try clear hb); (try clear ho0); obtain ⟨Ao52, co52, eo52⟩ := Kd.R_slice HO520.out; subst eo52) | ((with_reducible refine gate_callee (f := 19) rfl ?_); refine goesL_ (some 63) rfl rfl Try.func19 (by kernel_rfl) rfl #[.agg #[.bool t517, .slice Ao52 t518.length co52, .int .i64 t521]] rfl ga ?_; (with_reducible refine (dyad_Num_Near.calls kj20 t517 _ _ t518 t521 t522 t523 _ ?side1 ?side2 A28.out).mono ?_); (case side1 => exact ks HO520); (case side2 => exact (Kd.R_reads' HO520.out).2.1); rintro e w53 ⟨rfl, hb⟩; refine ⟨_, rfl, ?_⟩; refine ax4 (Kd.R_below (kr HO_516003) hb) (Kd.R_below (kr HO520) hb) (bb BK515 hb) (below_step bes hb) ?_; clear HO_516003; clear HO520; clear BK515; clear HB; intro HO_516003 HO520 BK515 HB; (try clear hb); have hcz54_0 := bc BK515 0 rfl; have hcz54_1 := bc BK515 1 rfl; have hcz54_2 := bc BK515 2 rfl; have hcz54_3 := bc BK515 3 rfl; have hfz54_0 := blk_frozen BK515.out 0; have hfz54_1 := blk_frozen BK515.out 1; have hfz54_2 := blk_frozen BK515.out 2; have hfz54_3 := blk_frozen BK515.out 3; obtain ⟨Ao55, co55, eo55⟩ := Kd.R_slice HO_516003.out; subst eo55) | ((with_reducible refine gate_callee (f := 20) rfl ?_); refine goesL_ (some 70) rfl rfl Try.func20 (by kernel_rfl) rfl #[.agg #[.int .i64 t509, .int .i64 t510, .int .i64 t511, .slice Ao55 x516003_2.length co55], .int .i64 x11_2, .int .i64 x11_2, .int .u64 t522] rfl ga ?_; (with_reducible refine (mat_Matrix_Set.calls t509 t510 t511 (fun k_ => some k_ = (.slice Ao55 x516003_2.length co55 : Value).ownBlock) (.slice Ao55 x516003_2.length co55) x516003_2 x11_2 x11_2 t522 t524 w _ ?side1 ?side2 A29.out).mono ?_); (case side1 => repeat (first | (with_reducible first | exact HB.out | apply below_alloc | apply pw_below_drewN | apply below_drew1) | exact HB.out)); (case side2 => exact Kd.R_tight rfl HO_516003.out); rintro e w56 ⟨rfl, hy0, hb, hkp⟩; refine ⟨_, rfl, ?_⟩; refine ax2 (Kd.R_reok rfl hy0 (fun k_ e_ => HO_516003.out.1 k_ e_)) hb ?_; clear HO_516003; clear HB; intro HO_516003 HB; (try clear hb); (try clear hkp); (try clear hy0); have p525 : 0 ≤ (x11_2 : Int) := of_decide_eq_true (by first | (with_reducible assumption) | assumption); have q525 : x11_2 < (l0.length : Int) := of_decide_eq_true (by first | (with_reducible assumption) | assumption); obtain ⟨ad525, e525, hx525_0⟩ := Kd.at_int HR0.out x11_2 p525 q525; cases e525; replace hx525_0 := (HB.out.cell (World.block_lt_of_cell? w _ hx525_0)).trans hx525_0; replace p525 := eq_true p525; replace q525 := eq_true q525) | ((with_reducible refine gate_callee (f := 21) rfl ?_); refine goesL_ (some 75) rfl rfl Try.func21 (by kernel_rfl) rfl #[.int .u64 (rd l0 x11_2)] rfl ga ?_; (with_reducible refine (word_Finite.calls (rd l0 x11_2) true _ A32.out).mono ?_); rintro e w' ⟨rfl, ⟨nd, rfl⟩⟩; refine ⟨_, rfl, ?_⟩; have p527 : 0 ≤ (x11_2 : Int) := of_decide_eq_true (by first | (with_reducible assumption) | assumption); have q527 : x11_2 < (l0.length : Int) := of_decide_eq_true (by first | (with_reducible assumption) | assumption); obtain ⟨ad527, e527, hx527_0⟩ := Kd.at_int HR0.out x11_2 p527 q527; obtain rfl : ad525 = ad527 := (by injection e527); replace hx527_0 := (HB.out.cell (World.block_lt_of_cell? w _ hx527_0)).trans hx527_0; replace p527 := eq_true p527; replace q527 := eq_true q527) | (go_at_call 10; (with_reducible refine (word_Abs.calls (rd l0 x11_2) t528 _ A34.out).mono ?_); rintro e w' ⟨rfl, ⟨nd, rfl⟩⟩; have p529 : 0 ≤ (x11_2 : Int) := of_decide_eq_true (by first | (with_reducible assumption) | assumption); have q529 : x11_2 < (l0.length : Int) := of_decide_eq_true (by first | (with_reducible assumption) | assumption); obtain ⟨ad529, e529, hx529_0⟩ := Kd.at_int HR0.out x11_2 p529 q529; obtain rfl : ad525 = ad529 := (by injection e529); replace hx529_0 := (HB.out.cell (World.block_lt_of_cell? w _ hx529_0)).trans hx529_0; replace p529 := eq_true p529; replace q529 := eq_true q529) | (go_at_call 22; (with_reducible refine (word_Exp.calls (rd l0 x11_2) t530 _ A42.out).mono ?_); rintro e w' ⟨rfl, ⟨nd, rfl⟩⟩; have p531 : 0 ≤ (x11_2 : Int) := of_decide_eq_true (by first | (with_reducible assumption) | assumption); have q531 : x11_2 < (l0.length : Int) := of_decide_eq_true (by first | (with_reducible assumption) | assumption); obtain ⟨ad531, e531, hx531_0⟩ := Kd.at_int HR0.out x11_2 p531 q531; obtain rfl : ad525 = ad531 := (by injection e531); replace hx531_0 := (HB.out.cell (World.block_lt_of_cell? w _ hx531_0)).trans hx531_0; replace p531 := eq_true p531; replace q531 := eq_true q531))
            go_ret
            exact ⟨er, bel⟩
           ·
            rw [if_neg c50] at H
            have c50b0 : decide (1900 < t530) = false := decide_eq_false c50
            clear c50
            have H' := Aside0.mk H
            clear H
            go_wp2_with (first | ((with_reducible refine gate_callee (f := 18) rfl ?_); refine goesL_ (some 62) rfl rfl Try.func18 (by kernel_rfl) rfl #[.int .i64 x12_20] rfl ga ?_; (with_reducible refine (dyad_Two.calls x12_20 t517 t518 t521 _ A27.out).mono ?_); rintro e w57 ⟨v519, rfl, ho0, hb⟩; refine ⟨_, rfl, ?_⟩; refine ax5 (Kd.R_below (kr HO_8) hb) (Kd.R_below (kr HO_516003) hb) (Kd.R_lower ho0 (below_size bes)) (bb BK515 hb) (below_step bes hb) ?_; clear HO_8; clear HO_516003; clear BK515; clear HB; intro HO_8 HO_516003 HO520 BK515 HB; (try clear hb); (try clear ho0); obtain ⟨Ao58, co58, eo58⟩ := Kd.R_slice HO520.out; subst eo58) | ((with_reducible refine gate_callee (f := 19) rfl ?_); refine goesL_ (some 63) rfl rfl Try.func19 (by kernel_rfl) rfl #[.agg #[.bool t517, .slice Ao58 t518.length co58, .int .i64 t521]] rfl ga ?_; (with_reducible refine (dyad_Num_Near.calls kj20 t517 _ _ t518 t521 t522 t523 _ ?side1 ?side2 A28.out).mono ?_); (case side1 => exact ks HO520); (case side2 => exact (Kd.R_reads' HO520.out).2.1); rintro e w59 ⟨rfl, hb⟩; refine ⟨_, rfl, ?_⟩; refine ax5 (Kd.R_below (kr HO_8) hb) (Kd.R_below (kr HO_516003) hb) (Kd.R_below (kr HO520) hb) (bb BK515 hb) (below_step bes hb) ?_; clear HO_8; clear HO_516003; clear HO520; clear BK515; clear HB; intro HO_8 HO_516003 HO520 BK515 HB; (try clear hb); have hcz60_0 := bc BK515 0 rfl; have hcz60_1 := bc BK515 1 rfl; have hcz60_2 := bc BK515 2 rfl; have hcz60_3 := bc BK515 3 rfl; have hfz60_0 := blk_frozen BK515.out 0; have hfz60_1 := blk_frozen BK515.out 1; have hfz60_2 := blk_frozen BK515.out 2; have hfz60_3 := blk_frozen BK515.out 3; obtain ⟨Ao61, co61, eo61⟩ := Kd.R_slice HO_516003.out; subst eo61) | ((with_reducible refine gate_callee (f := 20) rfl ?_); refine goesL_ (some 70) rfl rfl Try.func20 (by kernel_rfl) rfl #[.agg #[.int .i64 t509, .int .i64 t510, .int .i64 t511, .slice Ao61 x516003_2.length co61], .int .i64 x11_2, .int .i64 x11_2, .int .u64 t522] rfl ga ?_; (with_reducible refine (mat_Matrix_Set.calls t509 t510 t511 (fun k_ => some k_ = (.slice Ao61 x516003_2.length co61 : Value).ownBlock) (.slice Ao61 x516003_2.length co61) x516003_2 x11_2 x11_2 t522 t524 w _ ?side1 ?side2 A29.out).mono ?_); (case side1 => repeat (first | (with_reducible first | exact HB.out | apply below_alloc | apply pw_below_drewN | apply below_drew1 | refine below_set ?_ GE515.out) | exact HB.out)); (case side2 => exact Kd.R_tight rfl HO_516003.out); rintro e w62 ⟨rfl, hy0, hb, hkp⟩; refine ⟨_, rfl, ?_⟩; refine ax5 (Kd.R_mono (ok' := fun k_ => some k_ ≠ (.slice Ao61 x516003_2.length co61 : Value).ownBlock) (Kd.R_keptB (HO_8.out) hkp (fun k_ hk_ hs_ => (hk_) hs_)) (fun k_ hk_ => hk_.1)) (Kd.R_reok rfl hy0 (fun k_ e_ => HO_516003.out.1 k_ e_)) (blk_kept (kb BK515) hkp (fun hs_ => (fun e_ => (Kd.R_ne HO_516003.out BK515.out (by decide)) e_) hs_)) (Kd.R_mono (ok' := fun k_ => True) (Kd.R_keptB ((Kd.R_apart' HO520.out (Kd.R_typed HO_516003.out) (by decide))) hkp (fun k_ hk_ hs_ => (hk_.2) hs_)) (fun k_ hk_ => trivial)) hb ?_; clear HO_8; clear HO_516003; clear BK515; clear HO520; clear HB; intro HO_8 HO_516003 BK515 HO520 HB; (try clear hb); (try clear hkp); (try clear hy0); have p525 : 0 ≤ (x11_2 : Int) := of_decide_eq_true (by first | (with_reducible assumption) | assumption); have q525 : x11_2 < (l0.length : Int) := of_decide_eq_true (by first | (with_reducible assumption) | assumption); obtain ⟨ad525, e525, hx525_0⟩ := Kd.at_int HR0.out x11_2 p525 q525; cases e525; replace hx525_0 := (HB.out.cell (World.block_lt_of_cell? w _ hx525_0)).trans hx525_0; replace p525 := eq_true p525; replace q525 := eq_true q525) | ((with_reducible refine gate_callee (f := 21) rfl ?_); refine goesL_ (some 75) rfl rfl Try.func21 (by kernel_rfl) rfl #[.int .u64 (rd l0 x11_2)] rfl ga ?_; (with_reducible refine (word_Finite.calls (rd l0 x11_2) true _ A32.out).mono ?_); rintro e w' ⟨rfl, ⟨nd, rfl⟩⟩; refine ⟨_, rfl, ?_⟩; have p527 : 0 ≤ (x11_2 : Int) := of_decide_eq_true (by first | (with_reducible assumption) | assumption); have q527 : x11_2 < (l0.length : Int) := of_decide_eq_true (by first | (with_reducible assumption) | assumption); obtain ⟨ad527, e527, hx527_0⟩ := Kd.at_int HR0.out x11_2 p527 q527; obtain rfl : ad525 = ad527 := (by injection e527); replace hx527_0 := (HB.out.cell (World.block_lt_of_cell? w _ hx527_0)).trans hx527_0; replace p527 := eq_true p527; replace q527 := eq_true q527) | (go_at_call 10; (with_reducible refine (word_Abs.calls (rd l0 x11_2) t528 _ A34.out).mono ?_); rintro e w' ⟨rfl, ⟨nd, rfl⟩⟩; have p529 : 0 ≤ (x11_2 : Int) := of_decide_eq_true (by first | (with_reducible assumption) | assumption); have q529 : x11_2 < (l0.length : Int) := of_decide_eq_true (by first | (with_reducible assumption) | assumption); obtain ⟨ad529, e529, hx529_0⟩ := Kd.at_int HR0.out x11_2 p529 q529; obtain rfl : ad525 = ad529 := (by injection e529); replace hx529_0 := (HB.out.cell (World.block_lt_of_cell? w _ hx529_0)).trans hx529_0; replace p529 := eq_true p529; replace q529 := eq_true q529) | (go_at_call 22; (with_reducible refine (word_Exp.calls (rd l0 x11_2) t530 _ A42.out).mono ?_); rintro e w' ⟨rfl, ⟨nd, rfl⟩⟩; have p531 : 0 ≤ (x11_2 : Int) := of_decide_eq_true (by first | (with_reducible assumption) | assumption); have q531 : x11_2 < (l0.length : Int) := of_decide_eq_true (by first | (with_reducible assumption) | assumption); obtain ⟨ad531, e531, hx531_0⟩ := Kd.at_int HR0.out x11_2 p531 q531; obtain rfl : ad525 = ad531 := (by injection e531); replace hx531_0 := (HB.out.cell (World.block_lt_of_cell? w _ hx531_0)).trans hx531_0; replace p531 := eq_true p531; replace q531 := eq_true q531))
            go_roundg kj20
            case measure => have := HJ5.out; have := HK2.out; have := HJ20.out; omega
            case rel => exact ⟨(x8_2), (wrap64 (x11_2 + 1)), (t524), (.slice Ao61 x516003_2.length co61), (by first | rfl | (simp; done) | (simp [*]; done)), H', ⟨by have := HJ5.out; have := HK2.out; have := HJ20.out; omega⟩, ⟨kr HO_8⟩, ⟨kr HO_516003⟩, ⟨kb BK515⟩, ⟨bes⟩⟩
      ·
       rw [if_neg c20] at H
       have c20b0 : decide (x11_2 < (l0.length : Int)) = false := decide_eq_false c20
       clear c20
       obtain ⟨⟨t532, t535⟩, A690, H⟩ := Option.bind_eq_some_iff.mp H
       (try dsimp -simprocs only at H)
       have A69 := Aside0.mk A690
       clear A690
       obtain ⟨⟨t536, t539⟩, A700, H⟩ := Option.bind_eq_some_iff.mp H
       (try dsimp -simprocs only at H)
       have A70 := Aside0.mk A700
       clear A700
       have HC71 := Aside0.mk H
       clear H
       have hcz72_0 := bc BK515 0 rfl
       have hcz72_1 := bc BK515 1 rfl
       have hcz72_2 := bc BK515 2 rfl
       have hcz72_3 := bc BK515 3 rfl
       have hfz72_0 := blk_frozen BK515.out 0
       have hfz72_1 := blk_frozen BK515.out 1
       have hfz72_2 := blk_frozen BK515.out 2
       have hfz72_3 := blk_frozen BK515.out 3
       obtain ⟨Ao73, co73, eo73⟩ := Kd.R_slice HO_516003.out
       subst eo73
       go_upto_region 20 with (first | ((with_reducible refine gate_callee (f := 23) rfl ?_); refine goesL_ (some 105) rfl rfl Try.func23 (by kernel_rfl) rfl #[.pointer none, .agg #[.int .i64 t509, .int .i64 t510, .int .i64 t511, .slice Ao73 x516003_2.length co73], .bool a2, .bool false, .slice A0 l0.length c0] rfl ga ?_; (with_reducible refine (solve_Trmv_nil.calls k2  t509 t510 t511 _ _ x516003_2 a2 false _ _ l0 t532 t535 _ ?side1 ?side2 ?side3 ?side4 A69.out).mono ?_); (case side1 => exact ks HO_516003); (case side2 => exact (Kd.R_reads' HO_516003.out).2.1); (case side3 => repeat (first | exact (Kd.C_below HR0.out HB.out) | (with_reducible refine Kd.C_alloc ?_ _) | (with_reducible refine Kd.C_drewN ?_ _) | (with_reducible refine Kd.C_drew ?_))); (case side4 => exact HC0.out); rintro e w74 ⟨v533, rfl, ho0, hb⟩; refine ⟨_, rfl, ?_⟩; refine ax5 (Kd.R_elder' (kr HO_8) (Kd.R_base ho0) hb) (Kd.R_elder' (kr HO_516003) (Kd.R_base ho0) hb) (Kd.R_lower (Kd.R_new' (Kd.R_new' ho0 (Kd.R_lt (kr HO_8))) (Kd.R_lt (kr HO_516003))) (below_size bes)) (bb BK515 hb) (below_step bes hb) ?_; clear HO_8; clear HO_516003; clear BK515; clear HB; intro HO_8 HO_516003 HO534 BK515 HB; (try clear hb); (try clear ho0); have hcz75_0 := bc BK515 0 rfl; have hcz75_1 := bc BK515 1 rfl; have hcz75_2 := bc BK515 2 rfl; have hcz75_3 := bc BK515 3 rfl; have hfz75_0 := blk_frozen BK515.out 0; have hfz75_1 := blk_frozen BK515.out 1; have hfz75_2 := blk_frozen BK515.out 2; have hfz75_3 := blk_frozen BK515.out 3; obtain ⟨Ao76, co76, eo76⟩ := Kd.R_slice HO534.out; subst eo76) | ((with_reducible refine gate_callee (f := 9) rfl ?_); refine goesL_ (some 112) rfl rfl Try.func9 (by kernel_rfl) rfl #[.pointer none, .agg #[.int .i64 t509, .int .i64 t510, .int .i64 t511, .slice Ao73 x516003_2.length co73], .bool a2, .bool false, .slice Ao76 t532.length co76] rfl ga ?_; (with_reducible refine (solve_Trsv_nil.calls k2  t509 t510 t511 _ _ x516003_2 a2 false _ _ t532 t536 t539 _ ?side1 ?side2 ?side3 ?side4 A70.out).mono ?_); (case side1 => exact ks HO_516003); (case side2 => exact (Kd.R_reads' HO_516003.out).2.1); (case side3 => exact ks HO534); (case side4 => exact (Kd.R_reads' HO534.out).2.1); rintro e w77 ⟨v537, rfl, ho0, hb⟩; refine ⟨_, rfl, ?_⟩; refine ax6 (Kd.R_elder' (kr HO_8) (Kd.R_base ho0) hb) (Kd.R_elder' (kr HO_516003) (Kd.R_base ho0) hb) (Kd.R_elder' (kr HO534) (Kd.R_base ho0) hb) (Kd.R_lower (Kd.R_new' (Kd.R_new' (Kd.R_new' ho0 (Kd.R_lt (kr HO_8))) (Kd.R_lt (kr HO_516003))) (Kd.R_lt (kr HO534))) (below_size bes)) (bb BK515 hb) (below_step bes hb) ?_; clear HO_8; clear HO_516003; clear HO534; clear BK515; clear HB; intro HO_8 HO_516003 HO534 HO538 BK515 HB; (try clear hb); (try clear ho0)))
       (try simp only [Act.put, sa0, sa1, sa2])
       go_cut [124] (fun v124 wc => ∃ (kq : Nat) (x124_70 : Bool), v124 = .bool x124_70 ∧ Aside0 (gimballaw12_SolveOnes.j3 kq l0 x8_2 t536 x124_70 = some r) ∧ Aside0 (kq ≤ k2) ∧ Aside0 (Kd.R (Kd.int .u64) 35 wc w.heap.size (fun k_ => some k_ ≠ (v537 : Value).ownBlock ∧ some k_ ≠ ((.slice Ao73 x516003_2.length co73) : Value).ownBlock) v506 x8_2) ∧ Aside0 (Kd.R (Kd.int .u64) 35 wc w.heap.size (fun k_ => some k_ ≠ (v506 : Value).ownBlock ∧ some k_ ≠ ((.slice Ao73 x516003_2.length co73) : Value).ownBlock) v537 t536) ∧ Aside0 (Kd.R (Kd.int .u64) 35 wc w.heap.size (fun k_ => some k_ ≠ (v506 : Value).ownBlock ∧ some k_ ≠ (v537 : Value).ownBlock) (.slice Ao73 x516003_2.length co73) x516003_2) ∧ Aside0 (wc.heap[gb515]? = some (.cells #[.int .i64 t509, .int .i64 t510, .int .i64 t511, (.slice Ao73 x516003_2.length co73)] 25 (0, 0))) ∧ Aside0 (Below w.heap.size w wc))
       case first =>
        have H := HC71.out
        clear HC71
        by_cases c78 : t508 = 0
        rotate_left
        ·
         rw [if_neg c78] at H
         have c78b0 : (t508 == 0) = false := beq_eq_false_iff_ne.mpr c78
         have c78b1 : (t508 != 0) = true := bne_iff_ne.mpr c78
         (first | rw [c78b0] | (simp only [i64_w, i32_w]; rw [c78b0]) | skip)
         rw [hLW] at H
         exact absurd H (by cases k2 <;> simp [gimballaw12_SolveOnes.j3])
        rw [if_pos c78] at H
        have c78b0 : (t508 == 0) = true := beq_iff_eq.mpr c78
        have c78b1 : (t508 != 0) = false := bne_eq_false_iff_eq.mpr c78
        clear c78
        (first | rw [c78b0] | (simp only [i64_w, i32_w]; rw [c78b0]) | skip)
        by_cases c79 : t535 = 0
        rotate_left
        ·
         rw [if_neg c79] at H
         have c79b0 : (t535 == 0) = false := beq_eq_false_iff_ne.mpr c79
         have c79b1 : (t535 != 0) = true := bne_iff_ne.mpr c79
         rw [hLW] at H
         exact absurd H (by cases k2 <;> simp [gimballaw12_SolveOnes.j3])
        rw [if_pos c79] at H
        have c79b0 : (t535 == 0) = true := beq_iff_eq.mpr c79
        have c79b1 : (t535 != 0) = false := bne_eq_false_iff_eq.mpr c79
        clear c79
        have H' := Aside0.mk H
        clear H
        go_wp2
        go_meet
        case rel => exact ⟨_, ((t539 != 0)), (by first | rfl | (simp; done) | (simp [*]; done)), H', ⟨by have := HJ5.out; have := HK2.out; first | omega | exact Nat.le_refl _⟩, ⟨by (with_reducible repeat (first | apply Kd.R_alloc | apply Kd.R_drewN | apply Kd.R_drew)); exact Kd.R_mono HO_8.out (fun _ hk => ⟨hk.2, hk.1.1⟩)⟩, ⟨by (with_reducible repeat (first | apply Kd.R_alloc | apply Kd.R_drewN | apply Kd.R_drew)); exact Kd.R_mono HO538.out (fun _ hk => ⟨hk.1.1.2, hk.1.2⟩)⟩, ⟨by (with_reducible repeat (first | apply Kd.R_alloc | apply Kd.R_drewN | apply Kd.R_drew)); exact Kd.R_mono HO_516003.out (fun _ hk => ⟨hk.1.1, hk.2⟩)⟩, ⟨kb BK515⟩, ⟨bes⟩⟩
       case rest =>
        clear HC71
        try clear c1
        try clear c2
        try clear p2
        try clear c3
        try clear c4
        try clear c5
        try clear p5
        try clear q5
        try clear hx5
        try clear c6
        try clear p6
        try clear c7
        try clear c8
        try clear c8b0
        try clear c8b1
        try clear c9
        try clear c16
        try clear c17
        try clear c18
        try clear c19
        try clear c20
        try clear c20b0
        try clear c21
        try clear c22
        try clear c22b0
        try clear c22b1
        try clear c23
        try clear c23b0
        try clear c23b1
        try clear c23b2
        try clear c25
        try clear c25b0
        try clear c26
        try clear c26b0
        try clear c30
        try clear c30b0
        try clear c31
        try clear c31b0
        try clear c33
        try clear c35
        try clear c35b0
        try clear c35b1
        try clear c43
        try clear c43b0
        try clear c50
        try clear c50b0
        try clear p51
        try clear q51
        try clear hx51
        try clear p52
        try clear q52
        try clear hx52
        try clear p53
        try clear q53
        try clear hx53
        try clear p64
        try clear c77
        try clear c78
        try clear c78b0
        try clear c78b1
        try clear c79
        try clear c79b0
        try clear c79b1
        try clear hcz18_0
        try clear hcz18_1
        try clear hcz18_2
        try clear hcz18_3
        try clear hcz39_0
        try clear hcz39_1
        try clear hcz39_2
        try clear hcz39_3
        try clear hcz47_0
        try clear hcz47_1
        try clear hcz47_2
        try clear hcz47_3
        try clear hcz54_0
        try clear hcz54_1
        try clear hcz54_2
        try clear hcz54_3
        try clear hcz60_0
        try clear hcz60_1
        try clear hcz60_2
        try clear hcz60_3
        try clear hcz66_0
        try clear hcz66_1
        try clear hcz66_2
        try clear hcz66_3
        try clear hcz72_0
        try clear hcz72_1
        try clear hcz72_2
        try clear hcz72_3
        try clear hcz75_0
        try clear hcz75_1
        try clear hcz75_2
        try clear hcz75_3
        try clear hfz18_0
        try clear hfz18_1
        try clear hfz18_2
        try clear hfz18_3
        try clear hfz39_0
        try clear hfz39_1
        try clear hfz39_2
        try clear hfz39_3
        try clear hfz47_0
        try clear hfz47_1
        try clear hfz47_2
        try clear hfz47_3
        try clear hfz54_0
        try clear hfz54_1
        try clear hfz54_2
        try clear hfz54_3
        try clear hfz60_0
        try clear hfz60_1
        try clear hfz60_2
        try clear hfz60_3
        try clear hfz66_0
        try clear hfz66_1
        try clear hfz66_2
        try clear hfz66_3
        try clear hfz72_0
        try clear hfz72_1
        try clear hfz72_2
        try clear hfz72_3
        try clear hfz75_0
        try clear hfz75_1
        try clear hfz75_2
        try clear hfz75_3
        try clear hx516_0
        try clear hx525_0
        try clear hx527_0
        try clear hx529_0
        try clear hx531_0
        try clear p2
        try clear p5
        try clear p516
        try clear p525
        try clear p527
        try clear p529
        try clear p531
        try clear p6
        try clear q5
        try clear q516
        try clear q525
        try clear q527
        try clear q529
        try clear q531
        obtain ⟨kq, x124_70, rfl, HA, HJ70, HO_8, HO_17, HO_516003, BK515, HB⟩ := hcut
        cases kq with
        | zero => exact absurd HA.out (by simp [gimballaw12_SolveOnes.j3])
        | succ kj70 =>
         have H := HA.out
         clear HA
         simp only [gimballaw12_SolveOnes.j3] at H
         by_cases c80 : x124_70 = true
         ·
          subst c80
          rw [if_pos rfl] at H
          rw [hLW] at H
          exact absurd H (by simp)
         ·
          replace c80 := Bool.eq_false_iff.mpr c80
          subst c80
          rw [if_neg (show ¬ (false = true) by decide)] at H
          have H' := Aside0.mk H
          clear H
          go_wp2
          go_loopg [127] kj70 (fun kq v127 w' => ∃ (x127_4 : Int), v127 = .int .i64 x127_4 ∧ Aside0 (gimballaw12_SolveOnes.l1 kq l0 x8_2 t536 (l0.length : Int) x127_4 = some r) ∧ Aside0 (kq ≤ kj70) ∧ Aside0 (Kd.R (Kd.int .u64) 35 w' w.heap.size (fun k_ => some k_ ≠ (v537 : Value).ownBlock ∧ some k_ ≠ ((.slice Ao73 x516003_2.length co73) : Value).ownBlock) v506 x8_2) ∧ Aside0 (Kd.R (Kd.int .u64) 35 w' w.heap.size (fun k_ => some k_ ≠ (v506 : Value).ownBlock ∧ some k_ ≠ ((.slice Ao73 x516003_2.length co73) : Value).ownBlock) v537 t536) ∧ Aside0 (Kd.R (Kd.int .u64) 35 w' w.heap.size (fun k_ => some k_ ≠ (v506 : Value).ownBlock ∧ some k_ ≠ (v537 : Value).ownBlock) (.slice Ao73 x516003_2.length co73) x516003_2) ∧ Aside0 (w'.heap[gb515]? = some (.cells #[.int .i64 t509, .int .i64 t510, .int .i64 t511, (.slice Ao73 x516003_2.length co73)] 25 (0, 0))) ∧ Aside0 (Below w.heap.size w w'))
          case atStart => exact ⟨(0), (by first | rfl | (simp; done) | (simp [*]; done)), H', ⟨Nat.le_refl _⟩, ⟨kr HO_8⟩, ⟨kr HO_17⟩, ⟨kr HO_516003⟩, ⟨kb BK515⟩, ⟨bes⟩⟩
          case round =>
           clear H'
           try clear c1
           try clear c2
           try clear p2
           try clear c3
           try clear c4
           try clear c5
           try clear p5
           try clear q5
           try clear hx5
           try clear c6
           try clear p6
           try clear c7
           try clear c8
           try clear c8b0
           try clear c8b1
           try clear c9
           try clear c16
           try clear c17
           try clear c18
           try clear c19
           try clear c20
           try clear c20b0
           try clear c21
           try clear c22
           try clear c22b0
           try clear c22b1
           try clear c23
           try clear c23b0
           try clear c23b1
           try clear c23b2
           try clear c25
           try clear c25b0
           try clear c26
           try clear c26b0
           try clear c30
           try clear c30b0
           try clear c31
           try clear c31b0
           try clear c33
           try clear c35
           try clear c35b0
           try clear c35b1
           try clear c43
           try clear c43b0
           try clear c50
           try clear c50b0
           try clear p51
           try clear q51
           try clear hx51
           try clear p52
           try clear q52
           try clear hx52
           try clear p53
           try clear q53
           try clear hx53
           try clear p64
           try clear c77
           try clear c78
           try clear c78b0
           try clear c78b1
           try clear c79
           try clear c79b0
           try clear c79b1
           try clear c80
           try clear hcz18_0
           try clear hcz18_1
           try clear hcz18_2
           try clear hcz18_3
           try clear hcz39_0
           try clear hcz39_1
           try clear hcz39_2
           try clear hcz39_3
           try clear hcz47_0
           try clear hcz47_1
           try clear hcz47_2
           try clear hcz47_3
           try clear hcz54_0
           try clear hcz54_1
           try clear hcz54_2
           try clear hcz54_3
           try clear hcz60_0
           try clear hcz60_1
           try clear hcz60_2
           try clear hcz60_3
           try clear hcz66_0
           try clear hcz66_1
           try clear hcz66_2
           try clear hcz66_3
           try clear hcz72_0
           try clear hcz72_1
           try clear hcz72_2
           try clear hcz72_3
           try clear hcz75_0
           try clear hcz75_1
           try clear hcz75_2
           try clear hcz75_3
           try clear hfz18_0
           try clear hfz18_1
           try clear hfz18_2
           try clear hfz18_3
           try clear hfz39_0
           try clear hfz39_1
           try clear hfz39_2
           try clear hfz39_3
           try clear hfz47_0
           try clear hfz47_1
           try clear hfz47_2
           try clear hfz47_3
           try clear hfz54_0
           try clear hfz54_1
           try clear hfz54_2
           try clear hfz54_3
           try clear hfz60_0
           try clear hfz60_1
           try clear hfz60_2
           try clear hfz60_3
           try clear hfz66_0
           try clear hfz66_1
           try clear hfz66_2
           try clear hfz66_3
           try clear hfz72_0
           try clear hfz72_1
           try clear hfz72_2
           try clear hfz72_3
           try clear hfz75_0
           try clear hfz75_1
           try clear hfz75_2
           try clear hfz75_3
           try clear hx516_0
           try clear hx525_0
           try clear hx527_0
           try clear hx529_0
           try clear hx531_0
           try clear p2
           try clear p5
           try clear p51
           try clear p516
           try clear p52
           try clear p525
           try clear p527
           try clear p529
           try clear p53
           try clear p531
           try clear p6
           try clear p64
           try clear q5
           try clear q51
           try clear q516
           try clear q52
           try clear q525
           try clear q527
           try clear q529
           try clear q53
           try clear q531
           obtain ⟨x127_4, rfl, HA, HK4, HO_8, HO_17, HO_516003, BK515, HB⟩ := hrel
           cases gk with
           | zero => exact absurd HA.out (by simp [gimballaw12_SolveOnes.l1])
           | succ k4 =>
            have H := HA.out
            clear HA
            simp only [gimballaw12_SolveOnes.l1] at H
            by_cases c81 : x127_4 < (l0.length : Int)
            rotate_left
            ·
             rw [if_neg c81] at H
             have c81b0 : decide (x127_4 < (l0.length : Int)) = false := decide_eq_false c81
             clear c81
             obtain rfl := Option.some.inj H
             go_wp2
             go_ret
             exact ⟨er, bes⟩
            rw [if_pos c81] at H
            have c81b0 : decide (x127_4 < (l0.length : Int)) = true := decide_eq_true c81
            clear c81
            by_cases c82 : 0 ≤ x127_4
            rotate_left
            ·
             rw [if_neg c82] at H
             exact absurd H (by simp)
            rw [if_pos c82] at H
            have c82b0 : decide (0 ≤ x127_4) = true := decide_eq_true c82
            clear c82
            by_cases c83 : x127_4 < (x8_2.length : Int)
            rotate_left
            ·
             rw [if_neg c83] at H
             exact absurd H (by simp)
            rw [if_pos c83] at H
            have c83b0 : decide (x127_4 < (x8_2.length : Int)) = true := decide_eq_true c83
            clear c83
            by_cases c84 : x127_4 < (l0.length : Int)
            rotate_left
            ·
             rw [if_neg c84] at H
             exact absurd H (by simp)
            rw [if_pos c84] at H
            have c84b0 : decide (x127_4 < (l0.length : Int)) = true := decide_eq_true c84
            clear c84
            by_cases c85 : (rd x8_2 x127_4) = (rd l0 x127_4)
            ·
             rw [if_pos c85] at H
             have c85b0 : ((rd x8_2 x127_4) == (rd l0 x127_4)) = true := beq_iff_eq.mpr c85
             have c85b1 : ((rd x8_2 x127_4) != (rd l0 x127_4)) = false := bne_eq_false_iff_eq.mpr c85
             clear c85
             by_cases c86 : x127_4 < (t536.length : Int)
             rotate_left
             ·
              rw [if_neg c86] at H
              exact absurd H (by simp)
             rw [if_pos c86] at H
             have c86b0 : decide (x127_4 < (t536.length : Int)) = true := decide_eq_true c86
             clear c86
             by_cases c87 : (rd t536 x127_4) = (rd l0 x127_4)
             ·
              rw [if_pos c87] at H
              have c87b0 : ((rd t536 x127_4) == (rd l0 x127_4)) = true := beq_iff_eq.mpr c87
              have c87b1 : ((rd t536 x127_4) != (rd l0 x127_4)) = false := bne_eq_false_iff_eq.mpr c87
              clear c87
              have H' := Aside0.mk H
              clear H
              try go_wp2
              refine ax5 (Kd.R_drew HO_8.out) (Kd.R_drew HO_17.out) (Kd.R_drew HO_516003.out) (blk_drew BK515.out) (below_drew1 HB.out) ?_
              clear HO_8 HO_17 HO_516003 BK515 HB
              intro HO_8 HO_17 HO_516003 BK515 HB
              obtain ⟨Ao89, co89, eo89⟩ := Kd.R_slice HO_8.out
              (first | subst eo89 | (injection eo89 with f1_ f2_ f3_; have f4_ := f1_.symm; have f5_ := f3_.symm; clear f1_ f2_ f3_; subst f4_; subst f5_))
              have p540 : 0 ≤ (x127_4 : Int) := of_decide_eq_true (by first | (with_reducible assumption) | assumption)
              have q540 : x127_4 < (x8_2.length : Int) := of_decide_eq_true (by first | (with_reducible assumption) | assumption)
              obtain ⟨ad540, e540, hx540_0⟩ := Kd.at_int (Kd.R_reads' HO_8.out).2.2 x127_4 p540 q540
              cases e540
              replace p540 := eq_true p540
              replace q540 := eq_true q540
              have p541 : 0 ≤ (x127_4 : Int) := of_decide_eq_true (by first | (with_reducible assumption) | assumption)
              have q541 : x127_4 < (l0.length : Int) := of_decide_eq_true (by first | (with_reducible assumption) | assumption)
              obtain ⟨ad541, e541, hx541_0⟩ := Kd.at_int HR0.out x127_4 p541 q541
              have hw541_0 := hx541_0
              cases e541
              replace hx541_0 := (HB.out.cell (World.block_lt_of_cell? w _ hx541_0)).trans hx541_0
              replace p541 := eq_true p541
              replace q541 := eq_true q541
              obtain ⟨Ao90, co90, eo90⟩ := Kd.R_slice HO_17.out
              (first | subst eo90 | (injection eo90 with f1_ f2_ f3_; have f4_ := f1_.symm; have f5_ := f3_.symm; clear f1_ f2_ f3_; subst f4_; subst f5_))
              have p542 : 0 ≤ (x127_4 : Int) := of_decide_eq_true (by first | (with_reducible assumption) | assumption)
              have q542 : x127_4 < (t536.length : Int) := of_decide_eq_true (by first | (with_reducible assumption) | assumption)
              obtain ⟨ad542, e542, hx542_0⟩ := Kd.at_int (Kd.R_reads' HO_17.out).2.2 x127_4 p542 q542
              cases e542
              replace p542 := eq_true p542
              replace q542 := eq_true q542
              have p543 : 0 ≤ (x127_4 : Int) := of_decide_eq_true (by first | (with_reducible assumption) | assumption)
              have q543 : x127_4 < (l0.length : Int) := of_decide_eq_true (by first | (with_reducible assumption) | assumption)
              obtain ⟨ad543, e543, hx543_0⟩ := Kd.at_int HR0.out x127_4 p543 q543
              have hw543_0 := hx543_0
              obtain rfl : ad541 = ad543 := (by injection e543)
              replace hx543_0 := (HB.out.cell (World.block_lt_of_cell? w _ hx543_0)).trans hx543_0
              replace p543 := eq_true p543
              replace q543 := eq_true q543
              refine start_ (n := 36) (S := fun w' => w'.cell? (ad540.add (x127_4).toNat) = some (.int .u64 (rd x8_2 x127_4)) ∧ w'.cell? (ad541.add (x127_4).toNat) = some (.int .u64 (rd l0 x127_4)) ∧ w'.cell? (ad542.add (x127_4).toNat) = some (.int .u64 (rd t536 x127_4)) ∧ w'.cell? (ad541.add (x127_4).toNat) = some (.int .u64 (rd l0 x127_4))) (ds := []) #[false, false, false, false, false, false, false, false, false, false, false, false, false, false, false, false, false, false, false, false, false, false, false, false, false, false, false, false, false, false, false, false, false, false, false, false] (by kernel_rfl) rfl rfl ⟨hx540_0, ((HB.out.cell (World.block_lt_of_cell? w _ hw541_0)).trans hw541_0), hx542_0, ((HB.out.cell (World.block_lt_of_cell? w _ hw543_0)).trans hw543_0)⟩ (fun hHeld => ?_); refine with_tabW gimballaw12_SolveOnes.tab25 gimballaw12_SolveOnes.bits25 (fun HT_ HW_ => ?_)
              generalize wr.drew = w88 at HO_8 HO_17 HO_516003 BK515 HB hx540_0 hx541_0 hx542_0 hx543_0 hHeld ⊢
              refine pu 0 130 (lm 36 1) HT_ ?_
              refine pu 1 131 (lm 36 3) HT_ ?_
              refine pu 2 132 (lm 36 7) HT_ ?_
              refine pu 4 134 (lm 36 23) HT_ ?_
              refine pu 5 135 (lm 36 55) HT_ ?_
              refine pu 6 136 (lm 36 119) HT_ ?_
              refine ta 3 133 (lm 36 127) HT_ HW_ hHeld ?_
              refine ta 7 137 (lm 36 255) HT_ HW_ hHeld ?_
              refine pu 8 138 (lm 36 511) HT_ ?_
              refine pu 9 139 (lm 36 1023) HT_ ?_
              refine po 10 140 (lm 36 2047) HT_ ?_
              refine po 11 141 (lm 36 4095) HT_ ?_
              refine po 12 142 (lm 36 8191) HT_ ?_
              refine po 13 143 (lm 36 16383) HT_ ?_
              refine po 14 144 (lm 36 32767) HT_ ?_
              refine po 15 145 (lm 36 65535) HT_ ?_
              refine pu 16 146 (lm 36 131071) HT_ ?_
              refine pu 17 147 (lm 36 262143) HT_ ?_
              refine pu 18 148 (lm 36 524287) HT_ ?_
              refine pu 19 149 (lm 36 1048575) HT_ ?_
              refine pu 20 150 (lm 36 2097151) HT_ ?_
              refine pu 22 152 (lm 36 6291455) HT_ ?_
              refine pu 23 153 (lm 36 14680063) HT_ ?_
              refine pu 24 154 (lm 36 31457279) HT_ ?_
              refine ta 21 151 (lm 36 33554431) HT_ HW_ hHeld ?_
              refine ta 25 155 (lm 36 67108863) HT_ HW_ hHeld ?_
              refine pu 26 156 (lm 36 134217727) HT_ ?_
              refine pu 27 157 (lm 36 268435455) HT_ ?_
              refine po 28 158 (lm 36 536870911) HT_ ?_
              refine po 29 159 (lm 36 1073741823) HT_ ?_
              refine po 30 160 (lm 36 2147483647) HT_ ?_
              refine po 31 161 (lm 36 4294967295) HT_ ?_
              refine po 32 162 (lm 36 8589934591) HT_ ?_
              refine po 33 163 (lm 36 17179869183) HT_ ?_
              refine pu 34 164 (lm 36 34359738367) HT_ ?_
              refine pu 35 165 (lm 36 68719476735) HT_ ?_
              refine done_ (done_of HT_.out (by kernel_rfl)) ?_
              try go_wp2
              go_roundg k4
              case measure => have := HJ5.out; have := HK2.out; have := HJ70.out; have := HK4.out; omega
              case rel => exact ⟨(wrap64 (x127_4 + 1)), (by first | rfl | (simp; done) | (simp [*]; done)), H', ⟨by have := HJ5.out; have := HK2.out; have := HJ70.out; have := HK4.out; omega⟩, ⟨kr HO_8⟩, ⟨kr HO_17⟩, ⟨kr HO_516003⟩, ⟨kb BK515⟩, ⟨bes⟩⟩
             ·
              rw [if_neg c87] at H
              have c87b0 : ((rd t536 x127_4) == (rd l0 x127_4)) = false := beq_eq_false_iff_ne.mpr c87
              have c87b1 : ((rd t536 x127_4) != (rd l0 x127_4)) = true := bne_iff_ne.mpr c87
              obtain ⟨t545, A910, H⟩ := Option.bind_eq_some_iff.mp H
              (try dsimp -simprocs only at H)
              have A91 := Aside0.mk A910
              clear A910
              by_cases c92 : t545 = 0
              rotate_left
              ·
               rw [if_neg c92] at H
               have c92b0 : (t545 == 0) = false := beq_eq_false_iff_ne.mpr c92
               have c92b1 : (t545 != 0) = true := bne_iff_ne.mpr c92
               rw [hLW] at H
               exact absurd H (by simp)
              rw [if_pos c92] at H
              have c92b0 : (t545 == 0) = true := beq_iff_eq.mpr c92
              have c92b1 : (t545 != 0) = false := bne_eq_false_iff_eq.mpr c92
              clear c92
              have H' := Aside0.mk H
              clear H
              obtain ⟨Ao93, co93, eo93⟩ := Kd.R_slice HO_8.out
              subst eo93
              obtain ⟨Ao94, co94, eo94⟩ := Kd.R_slice HO_17.out
              subst eo94
              try go_wp2
              refine ax5 (Kd.R_drew HO_8.out) (Kd.R_drew HO_17.out) (Kd.R_drew HO_516003.out) (blk_drew BK515.out) (below_drew1 HB.out) ?_
              clear HO_8 HO_17 HO_516003 BK515 HB
              intro HO_8 HO_17 HO_516003 BK515 HB
              have p540 : 0 ≤ (x127_4 : Int) := of_decide_eq_true (by first | (with_reducible assumption) | assumption)
              have q540 : x127_4 < (x8_2.length : Int) := of_decide_eq_true (by first | (with_reducible assumption) | assumption)
              obtain ⟨ad540, e540, hx540_0⟩ := Kd.at_int (Kd.R_reads' HO_8.out).2.2 x127_4 p540 q540
              cases e540
              replace p540 := eq_true p540
              replace q540 := eq_true q540
              have p541 : 0 ≤ (x127_4 : Int) := of_decide_eq_true (by first | (with_reducible assumption) | assumption)
              have q541 : x127_4 < (l0.length : Int) := of_decide_eq_true (by first | (with_reducible assumption) | assumption)
              obtain ⟨ad541, e541, hx541_0⟩ := Kd.at_int HR0.out x127_4 p541 q541
              have hw541_0 := hx541_0
              cases e541
              replace hx541_0 := (HB.out.cell (World.block_lt_of_cell? w _ hx541_0)).trans hx541_0
              replace p541 := eq_true p541
              replace q541 := eq_true q541
              have p542 : 0 ≤ (x127_4 : Int) := of_decide_eq_true (by first | (with_reducible assumption) | assumption)
              have q542 : x127_4 < (t536.length : Int) := of_decide_eq_true (by first | (with_reducible assumption) | assumption)
              obtain ⟨ad542, e542, hx542_0⟩ := Kd.at_int (Kd.R_reads' HO_17.out).2.2 x127_4 p542 q542
              cases e542
              replace p542 := eq_true p542
              replace q542 := eq_true q542
              have p543 : 0 ≤ (x127_4 : Int) := of_decide_eq_true (by first | (with_reducible assumption) | assumption)
              have q543 : x127_4 < (l0.length : Int) := of_decide_eq_true (by first | (with_reducible assumption) | assumption)
              obtain ⟨ad543, e543, hx543_0⟩ := Kd.at_int HR0.out x127_4 p543 q543
              have hw543_0 := hx543_0
              obtain rfl : ad541 = ad543 := (by injection e543)
              replace hx543_0 := (HB.out.cell (World.block_lt_of_cell? w _ hx543_0)).trans hx543_0
              replace p543 := eq_true p543
              replace q543 := eq_true q543
              have p544 : 0 ≤ (x127_4 : Int) := of_decide_eq_true (by first | (with_reducible assumption) | assumption)
              have q544 : x127_4 < (l0.length : Int) := of_decide_eq_true (by first | (with_reducible assumption) | assumption)
              obtain ⟨ad544, e544, hx544_0⟩ := Kd.at_int HR0.out x127_4 p544 q544
              have hw544_0 := hx544_0
              obtain rfl : ad541 = ad544 := (by injection e544)
              replace hx544_0 := (HB.out.cell (World.block_lt_of_cell? w _ hx544_0)).trans hx544_0
              replace p544 := eq_true p544
              replace q544 := eq_true q544
              refine start_ (n := 36) (S := fun w' => w'.cell? (ad540.add (x127_4).toNat) = some (.int .u64 (rd x8_2 x127_4)) ∧ w'.cell? (ad541.add (x127_4).toNat) = some (.int .u64 (rd l0 x127_4)) ∧ w'.cell? (ad542.add (x127_4).toNat) = some (.int .u64 (rd t536 x127_4)) ∧ w'.cell? (ad541.add (x127_4).toNat) = some (.int .u64 (rd l0 x127_4)) ∧ w'.cell? (ad541.add (x127_4).toNat) = some (.int .u64 (rd l0 x127_4))) (ds := []) #[false, false, false, false, false, false, false, false, false, false, false, false, false, false, false, false, false, false, false, false, false, false, false, false, false, false, false, false, false, false, false, false, false, false, false, false] (by kernel_rfl) rfl rfl ⟨hx540_0, ((HB.out.cell (World.block_lt_of_cell? w _ hw541_0)).trans hw541_0), hx542_0, ((HB.out.cell (World.block_lt_of_cell? w _ hw543_0)).trans hw543_0), ((HB.out.cell (World.block_lt_of_cell? w _ hw544_0)).trans hw544_0)⟩ (fun hHeld => ?_); refine with_tabW gimballaw12_SolveOnes.tab25 gimballaw12_SolveOnes.bits25 (fun HT_ HW_ => ?_)
              generalize wr.drew = w95 at HO_8 HO_17 HO_516003 BK515 HB hx540_0 hx541_0 hx542_0 hx543_0 hx544_0 hHeld ⊢
              refine pu 0 130 (lm 36 1) HT_ ?_
              refine pu 1 131 (lm 36 3) HT_ ?_
              refine pu 2 132 (lm 36 7) HT_ ?_
              refine pu 4 134 (lm 36 23) HT_ ?_
              refine pu 5 135 (lm 36 55) HT_ ?_
              refine pu 6 136 (lm 36 119) HT_ ?_
              refine ta 3 133 (lm 36 127) HT_ HW_ hHeld ?_
              refine ta 7 137 (lm 36 255) HT_ HW_ hHeld ?_
              refine pu 8 138 (lm 36 511) HT_ ?_
              refine pu 9 139 (lm 36 1023) HT_ ?_
              refine po 10 140 (lm 36 2047) HT_ ?_
              refine po 11 141 (lm 36 4095) HT_ ?_
              refine po 12 142 (lm 36 8191) HT_ ?_
              refine po 13 143 (lm 36 16383) HT_ ?_
              refine po 14 144 (lm 36 32767) HT_ ?_
              refine po 15 145 (lm 36 65535) HT_ ?_
              refine pu 16 146 (lm 36 131071) HT_ ?_
              refine pu 17 147 (lm 36 262143) HT_ ?_
              refine pu 18 148 (lm 36 524287) HT_ ?_
              refine pu 19 149 (lm 36 1048575) HT_ ?_
              refine pu 20 150 (lm 36 2097151) HT_ ?_
              refine pu 22 152 (lm 36 6291455) HT_ ?_
              refine pu 23 153 (lm 36 14680063) HT_ ?_
              refine pu 24 154 (lm 36 31457279) HT_ ?_
              refine ta 21 151 (lm 36 33554431) HT_ HW_ hHeld ?_
              refine ta 25 155 (lm 36 67108863) HT_ HW_ hHeld ?_
              refine pu 26 156 (lm 36 134217727) HT_ ?_
              refine pu 27 157 (lm 36 268435455) HT_ ?_
              refine pu 28 158 (lm 36 536870911) HT_ ?_
              refine pu 29 159 (lm 36 1073741823) HT_ ?_
              refine pu 30 160 (lm 36 2147483647) HT_ ?_
              refine ta 31 161 (lm 36 4294967295) HT_ HW_ hHeld ?_
              refine on 32 (some 162) (lm 36 8589934591) HT_ (fun K hK => ?_)
              refine goes_ Try.func10 (by kernel_rfl) rfl #[.int .u64 (rd l0 x127_4)] (by rfl) rfl rfl ga ?_
              with_reducible refine (word_Abs.calls (rd l0 x127_4) t545 _ A91.out).mono ?_
              rintro e w' ⟨rfl, ⟨nd, rfl⟩⟩
              refine ⟨_, rfl, ?_⟩
              refine hK.out _ _ ⟨hHeld.1, ((HB.out.cell (World.block_lt_of_cell? w _ hw541_0)).trans hw541_0), hHeld.2.2.1, ((HB.out.cell (World.block_lt_of_cell? w _ hw543_0)).trans hw543_0), ((HB.out.cell (World.block_lt_of_cell? w _ hw544_0)).trans hw544_0)⟩ (fun hHeld => ?_)
              clear hK K
              refine no 162 ?_
              refine pu 33 163 (lm 36 17179869183) HT_ ?_
              refine pu 34 164 (lm 36 34359738367) HT_ ?_
              refine pu 35 165 (lm 36 68719476735) HT_ ?_
              refine done_ (done_of HT_.out (by kernel_rfl)) ?_
              try go_wp2
              go_roundg k4
              case measure => have := HJ5.out; have := HK2.out; have := HJ70.out; have := HK4.out; omega
              case rel => exact ⟨(wrap64 (x127_4 + 1)), (by first | rfl | (simp; done) | (simp [*]; done)), H', ⟨by have := HJ5.out; have := HK2.out; have := HJ70.out; have := HK4.out; omega⟩, ⟨kr HO_8⟩, ⟨kr HO_17⟩, ⟨kr HO_516003⟩, ⟨kb BK515⟩, ⟨bes⟩⟩
            ·
             rw [if_neg c85] at H
             have c85b0 : ((rd x8_2 x127_4) == (rd l0 x127_4)) = false := beq_eq_false_iff_ne.mpr c85
             have c85b1 : ((rd x8_2 x127_4) != (rd l0 x127_4)) = true := bne_iff_ne.mpr c85
             obtain ⟨t547, A960, H⟩ := Option.bind_eq_some_iff.mp H
             (try dsimp -simprocs only at H)
             have A96 := Aside0.mk A960
             clear A960
             by_cases c97 : t547 = 0
             rotate_left
             ·
              rw [if_neg c97] at H
              have c97b0 : (t547 == 0) = false := beq_eq_false_iff_ne.mpr c97
              have c97b1 : (t547 != 0) = true := bne_iff_ne.mpr c97
              rw [hLW] at H
              exact absurd H (by simp)
             rw [if_pos c97] at H
             have c97b0 : (t547 == 0) = true := beq_iff_eq.mpr c97
             have c97b1 : (t547 != 0) = false := bne_eq_false_iff_eq.mpr c97
             clear c97
             by_cases c98 : x127_4 < (t536.length : Int)
             rotate_left
             ·
              rw [if_neg c98] at H
              exact absurd H (by simp)
             rw [if_pos c98] at H
             have c98b0 : decide (x127_4 < (t536.length : Int)) = true := decide_eq_true c98
             clear c98
             by_cases c99 : (rd t536 x127_4) = (rd l0 x127_4)
             ·
              rw [if_pos c99] at H
              have c99b0 : ((rd t536 x127_4) == (rd l0 x127_4)) = true := beq_iff_eq.mpr c99
              have c99b1 : ((rd t536 x127_4) != (rd l0 x127_4)) = false := bne_eq_false_iff_eq.mpr c99
              clear c99
              have H' := Aside0.mk H
              clear H
              obtain ⟨Ao100, co100, eo100⟩ := Kd.R_slice HO_8.out
              subst eo100
              obtain ⟨Ao101, co101, eo101⟩ := Kd.R_slice HO_17.out
              subst eo101
              try go_wp2
              refine ax5 (Kd.R_drew HO_8.out) (Kd.R_drew HO_17.out) (Kd.R_drew HO_516003.out) (blk_drew BK515.out) (below_drew1 HB.out) ?_
              clear HO_8 HO_17 HO_516003 BK515 HB
              intro HO_8 HO_17 HO_516003 BK515 HB
              have p540 : 0 ≤ (x127_4 : Int) := of_decide_eq_true (by first | (with_reducible assumption) | assumption)
              have q540 : x127_4 < (x8_2.length : Int) := of_decide_eq_true (by first | (with_reducible assumption) | assumption)
              obtain ⟨ad540, e540, hx540_0⟩ := Kd.at_int (Kd.R_reads' HO_8.out).2.2 x127_4 p540 q540
              cases e540
              replace p540 := eq_true p540
              replace q540 := eq_true q540
              have p541 : 0 ≤ (x127_4 : Int) := of_decide_eq_true (by first | (with_reducible assumption) | assumption)
              have q541 : x127_4 < (l0.length : Int) := of_decide_eq_true (by first | (with_reducible assumption) | assumption)
              obtain ⟨ad541, e541, hx541_0⟩ := Kd.at_int HR0.out x127_4 p541 q541
              have hw541_0 := hx541_0
              cases e541
              replace hx541_0 := (HB.out.cell (World.block_lt_of_cell? w _ hx541_0)).trans hx541_0
              replace p541 := eq_true p541
              replace q541 := eq_true q541
              have p546 : 0 ≤ (x127_4 : Int) := of_decide_eq_true (by first | (with_reducible assumption) | assumption)
              have q546 : x127_4 < (l0.length : Int) := of_decide_eq_true (by first | (with_reducible assumption) | assumption)
              obtain ⟨ad546, e546, hx546_0⟩ := Kd.at_int HR0.out x127_4 p546 q546
              have hw546_0 := hx546_0
              obtain rfl : ad541 = ad546 := (by injection e546)
              replace hx546_0 := (HB.out.cell (World.block_lt_of_cell? w _ hx546_0)).trans hx546_0
              replace p546 := eq_true p546
              replace q546 := eq_true q546
              have p548 : 0 ≤ (x127_4 : Int) := of_decide_eq_true (by first | (with_reducible assumption) | assumption)
              have q548 : x127_4 < (t536.length : Int) := of_decide_eq_true (by first | (with_reducible assumption) | assumption)
              obtain ⟨ad548, e548, hx548_0⟩ := Kd.at_int (Kd.R_reads' HO_17.out).2.2 x127_4 p548 q548
              cases e548
              replace p548 := eq_true p548
              replace q548 := eq_true q548
              have p549 : 0 ≤ (x127_4 : Int) := of_decide_eq_true (by first | (with_reducible assumption) | assumption)
              have q549 : x127_4 < (l0.length : Int) := of_decide_eq_true (by first | (with_reducible assumption) | assumption)
              obtain ⟨ad549, e549, hx549_0⟩ := Kd.at_int HR0.out x127_4 p549 q549
              have hw549_0 := hx549_0
              obtain rfl : ad541 = ad549 := (by injection e549)
              replace hx549_0 := (HB.out.cell (World.block_lt_of_cell? w _ hx549_0)).trans hx549_0
              replace p549 := eq_true p549
              replace q549 := eq_true q549
              refine start_ (n := 36) (S := fun w' => w'.cell? (ad540.add (x127_4).toNat) = some (.int .u64 (rd x8_2 x127_4)) ∧ w'.cell? (ad541.add (x127_4).toNat) = some (.int .u64 (rd l0 x127_4)) ∧ w'.cell? (ad541.add (x127_4).toNat) = some (.int .u64 (rd l0 x127_4)) ∧ w'.cell? (ad548.add (x127_4).toNat) = some (.int .u64 (rd t536 x127_4)) ∧ w'.cell? (ad541.add (x127_4).toNat) = some (.int .u64 (rd l0 x127_4))) (ds := []) #[false, false, false, false, false, false, false, false, false, false, false, false, false, false, false, false, false, false, false, false, false, false, false, false, false, false, false, false, false, false, false, false, false, false, false, false] (by kernel_rfl) rfl rfl ⟨hx540_0, ((HB.out.cell (World.block_lt_of_cell? w _ hw541_0)).trans hw541_0), ((HB.out.cell (World.block_lt_of_cell? w _ hw546_0)).trans hw546_0), hx548_0, ((HB.out.cell (World.block_lt_of_cell? w _ hw549_0)).trans hw549_0)⟩ (fun hHeld => ?_); refine with_tabW gimballaw12_SolveOnes.tab25 gimballaw12_SolveOnes.bits25 (fun HT_ HW_ => ?_)
              generalize wr.drew = w102 at HO_8 HO_17 HO_516003 BK515 HB hx540_0 hx541_0 hx546_0 hx548_0 hx549_0 hHeld ⊢
              refine pu 0 130 (lm 36 1) HT_ ?_
              refine pu 1 131 (lm 36 3) HT_ ?_
              refine pu 2 132 (lm 36 7) HT_ ?_
              refine pu 4 134 (lm 36 23) HT_ ?_
              refine pu 5 135 (lm 36 55) HT_ ?_
              refine pu 6 136 (lm 36 119) HT_ ?_
              refine ta 3 133 (lm 36 127) HT_ HW_ hHeld ?_
              refine ta 7 137 (lm 36 255) HT_ HW_ hHeld ?_
              refine pu 8 138 (lm 36 511) HT_ ?_
              refine pu 9 139 (lm 36 1023) HT_ ?_
              refine pu 10 140 (lm 36 2047) HT_ ?_
              refine pu 11 141 (lm 36 4095) HT_ ?_
              refine pu 12 142 (lm 36 8191) HT_ ?_
              refine ta 13 143 (lm 36 16383) HT_ HW_ hHeld ?_
              refine on 14 (some 144) (lm 36 32767) HT_ (fun K hK => ?_)
              refine goes_ Try.func10 (by kernel_rfl) rfl #[.int .u64 (rd l0 x127_4)] (by rfl) rfl rfl ga ?_
              with_reducible refine (word_Abs.calls (rd l0 x127_4) t547 _ A96.out).mono ?_
              rintro e w' ⟨rfl, ⟨nd, rfl⟩⟩
              refine ⟨_, rfl, ?_⟩
              refine hK.out _ _ ⟨hHeld.1, ((HB.out.cell (World.block_lt_of_cell? w _ hw541_0)).trans hw541_0), ((HB.out.cell (World.block_lt_of_cell? w _ hw546_0)).trans hw546_0), hHeld.2.2.2.1, ((HB.out.cell (World.block_lt_of_cell? w _ hw549_0)).trans hw549_0)⟩ (fun hHeld => ?_)
              clear hK K
              refine no 144 ?_
              refine pu 15 145 (lm 36 65535) HT_ ?_
              refine pu 16 146 (lm 36 131071) HT_ ?_
              refine pu 17 147 (lm 36 262143) HT_ ?_
              refine pu 18 148 (lm 36 524287) HT_ ?_
              refine pu 19 149 (lm 36 1048575) HT_ ?_
              refine pu 20 150 (lm 36 2097151) HT_ ?_
              refine pu 22 152 (lm 36 6291455) HT_ ?_
              refine pu 23 153 (lm 36 14680063) HT_ ?_
              refine pu 24 154 (lm 36 31457279) HT_ ?_
              refine ta 21 151 (lm 36 33554431) HT_ HW_ hHeld ?_
              refine ta 25 155 (lm 36 67108863) HT_ HW_ hHeld ?_
              refine pu 26 156 (lm 36 134217727) HT_ ?_
              refine pu 27 157 (lm 36 268435455) HT_ ?_
              refine po 28 158 (lm 36 536870911) HT_ ?_
              refine po 29 159 (lm 36 1073741823) HT_ ?_
              refine po 30 160 (lm 36 2147483647) HT_ ?_
              refine po 31 161 (lm 36 4294967295) HT_ ?_
              refine po 32 162 (lm 36 8589934591) HT_ ?_
              refine po 33 163 (lm 36 17179869183) HT_ ?_
              refine pu 34 164 (lm 36 34359738367) HT_ ?_
              refine pu 35 165 (lm 36 68719476735) HT_ ?_
              refine done_ (done_of HT_.out (by kernel_rfl)) ?_
              try go_wp2
              go_roundg k4
              case measure => have := HJ5.out; have := HK2.out; have := HJ70.out; have := HK4.out; omega
              case rel => exact ⟨(wrap64 (x127_4 + 1)), (by first | rfl | (simp; done) | (simp [*]; done)), H', ⟨by have := HJ5.out; have := HK2.out; have := HJ70.out; have := HK4.out; omega⟩, ⟨kr HO_8⟩, ⟨kr HO_17⟩, ⟨kr HO_516003⟩, ⟨kb BK515⟩, ⟨bes⟩⟩
             ·
              rw [if_neg c99] at H
              have c99b0 : ((rd t536 x127_4) == (rd l0 x127_4)) = false := beq_eq_false_iff_ne.mpr c99
              have c99b1 : ((rd t536 x127_4) != (rd l0 x127_4)) = true := bne_iff_ne.mpr c99
              obtain ⟨t551, A1030, H⟩ := Option.bind_eq_some_iff.mp H
              (try dsimp -simprocs only at H)
              have A103 := Aside0.mk A1030
              clear A1030
              by_cases c104 : t551 = 0
              rotate_left
              ·
               rw [if_neg c104] at H
               have c104b0 : (t551 == 0) = false := beq_eq_false_iff_ne.mpr c104
               have c104b1 : (t551 != 0) = true := bne_iff_ne.mpr c104
               rw [hLW] at H
               exact absurd H (by simp)
              rw [if_pos c104] at H
              have c104b0 : (t551 == 0) = true := beq_iff_eq.mpr c104
              have c104b1 : (t551 != 0) = false := bne_eq_false_iff_eq.mpr c104
              clear c104
              have H' := Aside0.mk H
              clear H
              obtain ⟨Ao105, co105, eo105⟩ := Kd.R_slice HO_8.out
              subst eo105
              obtain ⟨Ao106, co106, eo106⟩ := Kd.R_slice HO_17.out
              subst eo106
              try go_wp2
              refine ax5 (Kd.R_drew HO_8.out) (Kd.R_drew HO_17.out) (Kd.R_drew HO_516003.out) (blk_drew BK515.out) (below_drew1 HB.out) ?_
              clear HO_8 HO_17 HO_516003 BK515 HB
              intro HO_8 HO_17 HO_516003 BK515 HB
              have p540 : 0 ≤ (x127_4 : Int) := of_decide_eq_true (by first | (with_reducible assumption) | assumption)
              have q540 : x127_4 < (x8_2.length : Int) := of_decide_eq_true (by first | (with_reducible assumption) | assumption)
              obtain ⟨ad540, e540, hx540_0⟩ := Kd.at_int (Kd.R_reads' HO_8.out).2.2 x127_4 p540 q540
              cases e540
              replace p540 := eq_true p540
              replace q540 := eq_true q540
              have p541 : 0 ≤ (x127_4 : Int) := of_decide_eq_true (by first | (with_reducible assumption) | assumption)
              have q541 : x127_4 < (l0.length : Int) := of_decide_eq_true (by first | (with_reducible assumption) | assumption)
              obtain ⟨ad541, e541, hx541_0⟩ := Kd.at_int HR0.out x127_4 p541 q541
              have hw541_0 := hx541_0
              cases e541
              replace hx541_0 := (HB.out.cell (World.block_lt_of_cell? w _ hx541_0)).trans hx541_0
              replace p541 := eq_true p541
              replace q541 := eq_true q541
              have p546 : 0 ≤ (x127_4 : Int) := of_decide_eq_true (by first | (with_reducible assumption) | assumption)
              have q546 : x127_4 < (l0.length : Int) := of_decide_eq_true (by first | (with_reducible assumption) | assumption)
              obtain ⟨ad546, e546, hx546_0⟩ := Kd.at_int HR0.out x127_4 p546 q546
              have hw546_0 := hx546_0
              obtain rfl : ad541 = ad546 := (by injection e546)
              replace hx546_0 := (HB.out.cell (World.block_lt_of_cell? w _ hx546_0)).trans hx546_0
              replace p546 := eq_true p546
              replace q546 := eq_true q546
              have p548 : 0 ≤ (x127_4 : Int) := of_decide_eq_true (by first | (with_reducible assumption) | assumption)
              have q548 : x127_4 < (t536.length : Int) := of_decide_eq_true (by first | (with_reducible assumption) | assumption)
              obtain ⟨ad548, e548, hx548_0⟩ := Kd.at_int (Kd.R_reads' HO_17.out).2.2 x127_4 p548 q548
              cases e548
              replace p548 := eq_true p548
              replace q548 := eq_true q548
              have p549 : 0 ≤ (x127_4 : Int) := of_decide_eq_true (by first | (with_reducible assumption) | assumption)
              have q549 : x127_4 < (l0.length : Int) := of_decide_eq_true (by first | (with_reducible assumption) | assumption)
              obtain ⟨ad549, e549, hx549_0⟩ := Kd.at_int HR0.out x127_4 p549 q549
              have hw549_0 := hx549_0
              obtain rfl : ad541 = ad549 := (by injection e549)
              replace hx549_0 := (HB.out.cell (World.block_lt_of_cell? w _ hx549_0)).trans hx549_0
              replace p549 := eq_true p549
              replace q549 := eq_true q549
              have p550 : 0 ≤ (x127_4 : Int) := of_decide_eq_true (by first | (with_reducible assumption) | assumption)
              have q550 : x127_4 < (l0.length : Int) := of_decide_eq_true (by first | (with_reducible assumption) | assumption)
              obtain ⟨ad550, e550, hx550_0⟩ := Kd.at_int HR0.out x127_4 p550 q550
              have hw550_0 := hx550_0
              obtain rfl : ad541 = ad550 := (by injection e550)
              replace hx550_0 := (HB.out.cell (World.block_lt_of_cell? w _ hx550_0)).trans hx550_0
              replace p550 := eq_true p550
              replace q550 := eq_true q550
              refine start_ (n := 36) (S := fun w' => w'.cell? (ad540.add (x127_4).toNat) = some (.int .u64 (rd x8_2 x127_4)) ∧ w'.cell? (ad541.add (x127_4).toNat) = some (.int .u64 (rd l0 x127_4)) ∧ w'.cell? (ad541.add (x127_4).toNat) = some (.int .u64 (rd l0 x127_4)) ∧ w'.cell? (ad548.add (x127_4).toNat) = some (.int .u64 (rd t536 x127_4)) ∧ w'.cell? (ad541.add (x127_4).toNat) = some (.int .u64 (rd l0 x127_4)) ∧ w'.cell? (ad541.add (x127_4).toNat) = some (.int .u64 (rd l0 x127_4))) (ds := []) #[false, false, false, false, false, false, false, false, false, false, false, false, false, false, false, false, false, false, false, false, false, false, false, false, false, false, false, false, false, false, false, false, false, false, false, false] (by kernel_rfl) rfl rfl ⟨hx540_0, ((HB.out.cell (World.block_lt_of_cell? w _ hw541_0)).trans hw541_0), ((HB.out.cell (World.block_lt_of_cell? w _ hw546_0)).trans hw546_0), hx548_0, ((HB.out.cell (World.block_lt_of_cell? w _ hw549_0)).trans hw549_0), ((HB.out.cell (World.block_lt_of_cell? w _ hw550_0)).trans hw550_0)⟩ (fun hHeld => ?_); refine with_tabW gimballaw12_SolveOnes.tab25 gimballaw12_SolveOnes.bits25 (fun HT_ HW_ => ?_)
              generalize wr.drew = w107 at HO_8 HO_17 HO_516003 BK515 HB hx540_0 hx541_0 hx546_0 hx548_0 hx549_0 hx550_0 hHeld ⊢
              refine pu 0 130 (lm 36 1) HT_ ?_
              refine pu 1 131 (lm 36 3) HT_ ?_
              refine pu 2 132 (lm 36 7) HT_ ?_
              refine pu 4 134 (lm 36 23) HT_ ?_
              refine pu 5 135 (lm 36 55) HT_ ?_
              refine pu 6 136 (lm 36 119) HT_ ?_
              refine ta 3 133 (lm 36 127) HT_ HW_ hHeld ?_
              refine ta 7 137 (lm 36 255) HT_ HW_ hHeld ?_
              refine pu 8 138 (lm 36 511) HT_ ?_
              refine pu 9 139 (lm 36 1023) HT_ ?_
              refine pu 10 140 (lm 36 2047) HT_ ?_
              refine pu 11 141 (lm 36 4095) HT_ ?_
              refine pu 12 142 (lm 36 8191) HT_ ?_
              refine ta 13 143 (lm 36 16383) HT_ HW_ hHeld ?_
              refine on 14 (some 144) (lm 36 32767) HT_ (fun K hK => ?_)
              refine goes_ Try.func10 (by kernel_rfl) rfl #[.int .u64 (rd l0 x127_4)] (by rfl) rfl rfl ga ?_
              with_reducible refine (word_Abs.calls (rd l0 x127_4) t547 _ A96.out).mono ?_
              rintro e w' ⟨rfl, ⟨nd, rfl⟩⟩
              refine ⟨_, rfl, ?_⟩
              refine hK.out _ _ ⟨hHeld.1, ((HB.out.cell (World.block_lt_of_cell? w _ hw541_0)).trans hw541_0), ((HB.out.cell (World.block_lt_of_cell? w _ hw546_0)).trans hw546_0), hHeld.2.2.2.1, ((HB.out.cell (World.block_lt_of_cell? w _ hw549_0)).trans hw549_0), ((HB.out.cell (World.block_lt_of_cell? w _ hw550_0)).trans hw550_0)⟩ (fun hHeld => ?_)
              clear hK K
              refine no 144 ?_
              refine pu 15 145 (lm 36 65535) HT_ ?_
              refine pu 16 146 (lm 36 131071) HT_ ?_
              refine pu 17 147 (lm 36 262143) HT_ ?_
              refine pu 18 148 (lm 36 524287) HT_ ?_
              refine pu 19 149 (lm 36 1048575) HT_ ?_
              refine pu 20 150 (lm 36 2097151) HT_ ?_
              refine pu 22 152 (lm 36 6291455) HT_ ?_
              refine pu 23 153 (lm 36 14680063) HT_ ?_
              refine pu 24 154 (lm 36 31457279) HT_ ?_
              refine ta 21 151 (lm 36 33554431) HT_ HW_ hHeld ?_
              refine ta 25 155 (lm 36 67108863) HT_ HW_ hHeld ?_
              refine pu 26 156 (lm 36 134217727) HT_ ?_
              refine pu 27 157 (lm 36 268435455) HT_ ?_
              refine pu 28 158 (lm 36 536870911) HT_ ?_
              refine pu 29 159 (lm 36 1073741823) HT_ ?_
              refine pu 30 160 (lm 36 2147483647) HT_ ?_
              refine ta 31 161 (lm 36 4294967295) HT_ HW_ hHeld ?_
              refine on 32 (some 162) (lm 36 8589934591) HT_ (fun K hK => ?_)
              refine goes_ Try.func10 (by kernel_rfl) rfl #[.int .u64 (rd l0 x127_4)] (by rfl) rfl rfl ga ?_
              with_reducible refine (word_Abs.calls (rd l0 x127_4) t551 _ A103.out).mono ?_
              rintro e w' ⟨rfl, ⟨nd, rfl⟩⟩
              refine ⟨_, rfl, ?_⟩
              refine hK.out _ _ ⟨hHeld.1, ((HB.out.cell (World.block_lt_of_cell? w _ hw541_0)).trans hw541_0), ((HB.out.cell (World.block_lt_of_cell? w _ hw546_0)).trans hw546_0), hHeld.2.2.2.1, ((HB.out.cell (World.block_lt_of_cell? w _ hw549_0)).trans hw549_0), ((HB.out.cell (World.block_lt_of_cell? w _ hw550_0)).trans hw550_0)⟩ (fun hHeld => ?_)
              clear hK K
              refine no 162 ?_
              refine pu 33 163 (lm 36 17179869183) HT_ ?_
              refine pu 34 164 (lm 36 34359738367) HT_ ?_
              refine pu 35 165 (lm 36 68719476735) HT_ ?_
              refine done_ (done_of HT_.out (by kernel_rfl)) ?_
              try go_wp2
              go_roundg k4
              case measure => have := HJ5.out; have := HK2.out; have := HJ70.out; have := HK4.out; omega
              case rel => exact ⟨(wrap64 (x127_4 + 1)), (by first | rfl | (simp; done) | (simp [*]; done)), H', ⟨by have := HJ5.out; have := HK2.out; have := HJ70.out; have := HK4.out; omega⟩, ⟨kr HO_8⟩, ⟨kr HO_17⟩, ⟨kr HO_516003⟩, ⟨kb BK515⟩, ⟨bes⟩⟩
/-- THE ONE PURE STATEMENT of gimballaw12_SolveOnes: yours. -/
def gimballaw12_SolveOnes.Pure : Prop := ∀ (l0 : List Int) (l1 : List Int) (a2 : Bool), l0.length ≤ maxLen → l0.length * 8 ≤ 140737488351232 → (∀ x ∈ l0, (Lit.int .u64 x).wf = true) → l1.length ≤ maxLen → l1.length * 8 ≤ 140737488351232 → (∀ x ∈ l1, (Lit.int .i64 x).wf = true) → ∃ k, gimballaw12_SolveOnes.f k l0 l1 a2 = some true
theorem gimballaw12_SolveOnes.walk (P : gimballaw12_SolveOnes.Pure) (a0 : Option Addr) (len0 cap0 : Nat) (z0 : List Int) (a1 : Option Addr) (len1 cap1 : Nat) (z1 : List Int) (a2 : Bool) (w : World) (w0 : (a0 = none ∧ len0 = 0 ∧ cap0 = 0 ∧ z0 = []) ∨ ∃ x, a0 = some x ∧ len0 ≤ cap0 ∧ cap0 ≤ maxLen ∧ z0.length = cap0 ∧ (∀ i, i < z0.length → w.cell? (x.add i) = some (.int .u64 (z0.getD i 0))) ∧ ∀ n ∈ z0, (Lit.int .u64 n).wf = true) (y0 : len0 * 8 ≤ 140737488351232) (w1 : (a1 = none ∧ len1 = 0 ∧ cap1 = 0 ∧ z1 = []) ∨ ∃ x, a1 = some x ∧ len1 ≤ cap1 ∧ cap1 ≤ maxLen ∧ z1.length = cap1 ∧ (∀ i, i < z1.length → w.cell? (x.add i) = some (.int .i64 (z1.getD i 0))) ∧ ∀ n ∈ z1, (Lit.int .i64 n).wf = true) (y1 : len1 * 8 ≤ 140737488351232) :
  Calls Try.prog 4 #[.slice a0 len0 cap0, .slice a1 len1 cap1, .bool a2] w fun e w' => e = .returned (.bool true) ∧ Below w.heap.size w w' := by
 obtain ⟨l0, rfl, hr0, hm0, hw0, hc0⟩ := ReadsInt.ofRowC w0
 obtain ⟨l1, rfl, hr1, hm1, hw1, hc1⟩ := ReadsInt.ofRowC w1
 obtain ⟨k, h⟩ := P l0 l1 a2 hm0 y0 hw0 hm1 y1 hw1
 refine (gimballaw12_SolveOnes.calls k _ _ l0 _ _ l1 a2 true w (Kd.C_of_reads (d := (0 : Int)) (h1 := fun _ => rfl) hr0) hc0 (Kd.C_of_reads (d := (0 : Int)) (h1 := fun _ => rfl) hr1) hc1 rfl h).mono ?_
 rintro e w' ⟨rfl, hd⟩
 exact ⟨rfl, hd⟩

end Go.Proofs.Ytnjobojkoaknpaa.F
