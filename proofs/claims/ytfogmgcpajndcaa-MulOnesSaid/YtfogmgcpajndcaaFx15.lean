-- Written by a program of this seat's session (mkprint), out of the translation.
import Derived.Test.YtfogmgcpajndcaaShort
import Derived.Test.YtfogmgcpajndcaaFx0
import Derived.Test.YtfogmgcpajndcaaFx2
import Derived.Test.YtfogmgcpajndcaaFx7
import Derived.Test.YtfogmgcpajndcaaFx8
import Derived.Test.YtfogmgcpajndcaaFx13
import Derived.Test.YtfogmgcpajndcaaFx14
namespace Go.Proofs.Ytfogmgcpajndcaa.F
open Go.RowKit Go.Proofs.YtfogmgcpajndcaaW.PrintWords Go.Proofs.YtfogmgcpajndcaaW.PrintLast Go.Proofs.YtfogmgcpajndcaaW.PrintMore
attribute [local go_sem] max2_int min2_int max_two min_two max_three min_three max_four min_four   -- for this text's walks alone
set_option linter.unusedVariables false
set_option linter.unusedSimpArgs false

/-! ### gimballaw11_MulOnes: function 3 -/
mutual
def gimballaw11_MulOnes.j0 : Nat → Int → Int → Bool → Int → Int → Int → List Int → Int → Int → Int → List Int → Option (Bool)
 | 0, _, _, _, _, _, _, _, _, _, _, _ => none
 | k + 1, x0, x1, x44, x378000, x378001, x378002, x378003, x385000, x385001, x385002, x385003 => if x44 = true then (some true) else ((mat_One.f k (Go.bits .and .i64 x0 7)).bind fun bt387 => ((mul_Gemm_nil.f k bt387.1 bt387.2.1 bt387.2.2.1 bt387.2.2.2 x378000 x378001 x378002 x378003).bind fun bt393 => ((mat_One.f k (Go.bits .and .i64 x1 7)).bind fun bt401 => ((mul_Gemm_nil.f k x378000 x378001 x378002 x378003 bt401.1 bt401.2.1 bt401.2.2.1 bt401.2.2.2).bind fun bt407 => ((mul_Gemm_nil.f k x378000 x378001 x378002 x378003 x385000 x385001 x385002 x385003).bind fun bt415 => ((mat_Matrix_Turn.f k x385000 x385001 x385002 x385003).bind fun bt423 => ((mat_Matrix_Turn.f k x378000 x378001 x378002 x378003).bind fun bt429 => ((mul_Gemm_nil.f k bt423.1 bt423.2.1 bt423.2.2.1 bt423.2.2.2 bt429.1 bt429.2.1 bt429.2.2.1 bt429.2.2.2).bind fun bt435 => (if bt393.2.2.2.2 = 0 then (if bt407.2.2.2.2 = 0 then (if bt415.2.2.2.2 = 0 then (if bt435.2.2.2.2 = 0 then ((mat_Matrix_Turn.f k bt415.1 bt415.2.1 bt415.2.2.1 bt415.2.2.2.1).bind fun bt443 => ((mat_Matrix_Same.f k bt443.1 bt443.2.1 bt443.2.2.1 bt443.2.2.2 bt435.1 bt435.2.1 bt435.2.2.1 bt435.2.2.2.1).bind fun t449 => (gimballaw11_MulOnes.j1 k (!t449) x378000 x378001 x378002 x378003 bt393.1 bt393.2.1 bt393.2.2.1 bt393.2.2.2.1 bt407.1 bt407.2.1 bt407.2.2.1 bt407.2.2.2.1))) else (gimballaw11_MulOnes.j1 k true x378000 x378001 x378002 x378003 bt393.1 bt393.2.1 bt393.2.2.1 bt393.2.2.2.1 bt407.1 bt407.2.1 bt407.2.2.1 bt407.2.2.2.1)) else (gimballaw11_MulOnes.j1 k true x378000 x378001 x378002 x378003 bt393.1 bt393.2.1 bt393.2.2.1 bt393.2.2.2.1 bt407.1 bt407.2.1 bt407.2.2.1 bt407.2.2.2.1)) else (gimballaw11_MulOnes.j1 k true x378000 x378001 x378002 x378003 bt393.1 bt393.2.1 bt393.2.2.1 bt393.2.2.2.1 bt407.1 bt407.2.1 bt407.2.2.1 bt407.2.2.2.1)) else (gimballaw11_MulOnes.j1 k true x378000 x378001 x378002 x378003 bt393.1 bt393.2.1 bt393.2.2.1 bt393.2.2.2.1 bt407.1 bt407.2.1 bt407.2.2.1 bt407.2.2.2.1))))))))))
def gimballaw11_MulOnes.j1 : Nat → Bool → Int → Int → Int → List Int → Int → Int → Int → List Int → Int → Int → Int → List Int → Option (Bool)
 | 0, _, _, _, _, _, _, _, _, _, _, _, _, _ => none
 | k + 1, x95, x378000, x378001, x378002, x378003, x401000, x401001, x401002, x401003, x415000, x415001, x415002, x415003 => if x95 = true then (some false) else (gimballaw11_MulOnes.l0 k (x378003.length : Int) 0 x378000 x378001 x378002 x378003 x401000 x401001 x401002 x401003 x415000 x415001 x415002 x415003)
def gimballaw11_MulOnes.l0 : Nat → Int → Int → Int → Int → Int → List Int → Int → Int → Int → List Int → Int → Int → Int → List Int → Option (Bool)
 | 0, _, _, _, _, _, _, _, _, _, _, _, _, _, _ => none
 | k + 1, x98, x99, x378000, x378001, x378002, x378003, x401000, x401001, x401002, x401003, x415000, x415001, x415002, x415003 => if x99 < x98 then (if 0 ≤ x99 then (if x99 < (x401003.length : Int) then (if x99 < (x378003.length : Int) then (if (rd x401003 x99) = (rd x378003 x99) then (if x99 < (x415003.length : Int) then (if (rd x415003 x99) = (rd x378003 x99) then ((word_Abs.f (rd x401003 x99)).bind fun t455 => ((word_Abs.f (rd x378003 x99)).bind fun t457 => (if t455 = t457 then (gimballaw11_MulOnes.l0 k x98 (wrap64 (x99 + 1)) x378000 x378001 x378002 x378003 x401000 x401001 x401002 x401003 x415000 x415001 x415002 x415003) else (some false)))) else ((word_Abs.f (rd x378003 x99)).bind fun t459 => (if t459 = 0 then ((word_Abs.f (rd x401003 x99)).bind fun t461 => ((word_Abs.f (rd x378003 x99)).bind fun t463 => (if t461 = t463 then (gimballaw11_MulOnes.l0 k x98 (wrap64 (x99 + 1)) x378000 x378001 x378002 x378003 x401000 x401001 x401002 x401003 x415000 x415001 x415002 x415003) else (some false)))) else (some false)))) else (none)) else ((word_Abs.f (rd x378003 x99)).bind fun t465 => (if t465 = 0 then (if x99 < (x415003.length : Int) then (if (rd x415003 x99) = (rd x378003 x99) then ((word_Abs.f (rd x401003 x99)).bind fun t469 => ((word_Abs.f (rd x378003 x99)).bind fun t471 => (if t469 = t471 then (gimballaw11_MulOnes.l0 k x98 (wrap64 (x99 + 1)) x378000 x378001 x378002 x378003 x401000 x401001 x401002 x401003 x415000 x415001 x415002 x415003) else (some false)))) else ((word_Abs.f (rd x378003 x99)).bind fun t473 => (if t473 = 0 then ((word_Abs.f (rd x401003 x99)).bind fun t475 => ((word_Abs.f (rd x378003 x99)).bind fun t477 => (if t475 = t477 then (gimballaw11_MulOnes.l0 k x98 (wrap64 (x99 + 1)) x378000 x378001 x378002 x378003 x401000 x401001 x401002 x401003 x415000 x415001 x415002 x415003) else (some false)))) else (some false)))) else (none)) else (some false)))) else (none)) else (none)) else (none)) else (some true)
end
def gimballaw11_MulOnes.f (k : Nat) (a0 : Int) (a1 : Int) (a2 : Int) (l3 : List Int) : Option (Bool) := (gimballaw11_head.f k).bind fun t370 => (if t370 = true then (if (l3.length : Int) > 100 then (some true) else ((gimballaw11_made.f k (Go.bits .and .i64 a0 7) (Go.bits .and .i64 a1 7) l3 0).bind fun bt371 => ((gimballaw11_made.f k (Go.bits .and .i64 a1 7) (Go.bits .and .i64 a2 7) l3 3).bind fun bt378 => ((mat_Matrix_Finite.f k bt371.1 bt371.2.1 bt371.2.2.1 bt371.2.2.2).bind fun t385 => (if t385 = true then ((mat_Matrix_Finite.f k bt378.1 bt378.2.1 bt378.2.2.1 bt378.2.2.2).bind fun t386 => (gimballaw11_MulOnes.j0 k a0 a1 (!t386) bt371.1 bt371.2.1 bt371.2.2.1 bt371.2.2.2 bt378.1 bt378.2.1 bt378.2.2.1 bt378.2.2.2)) else (gimballaw11_MulOnes.j0 k a0 a1 true bt371.1 bt371.2.1 bt371.2.2.1 bt371.2.2.2 bt378.1 bt378.2.1 bt378.2.2.1 bt378.2.2.2)))))) else (some false))
theorem gimballaw11_MulOnes.mono_l : ∀ k, (∀ y0 y1 y2 y3 y4 y5 y6 y7 y8 y9 y10, LeO (gimballaw11_MulOnes.j0 k y0 y1 y2 y3 y4 y5 y6 y7 y8 y9 y10) (gimballaw11_MulOnes.j0 (k + 1) y0 y1 y2 y3 y4 y5 y6 y7 y8 y9 y10)) ∧ (∀ y0 y1 y2 y3 y4 y5 y6 y7 y8 y9 y10 y11 y12, LeO (gimballaw11_MulOnes.j1 k y0 y1 y2 y3 y4 y5 y6 y7 y8 y9 y10 y11 y12) (gimballaw11_MulOnes.j1 (k + 1) y0 y1 y2 y3 y4 y5 y6 y7 y8 y9 y10 y11 y12)) ∧ (∀ y0 y1 y2 y3 y4 y5 y6 y7 y8 y9 y10 y11 y12 y13, LeO (gimballaw11_MulOnes.l0 k y0 y1 y2 y3 y4 y5 y6 y7 y8 y9 y10 y11 y12 y13) (gimballaw11_MulOnes.l0 (k + 1) y0 y1 y2 y3 y4 y5 y6 y7 y8 y9 y10 y11 y12 y13))
 | 0 => ⟨fun _ _ _ _ _ _ _ _ _ _ _ r h => by simp [gimballaw11_MulOnes.j0] at h, fun _ _ _ _ _ _ _ _ _ _ _ _ _ r h => by simp [gimballaw11_MulOnes.j1] at h, fun _ _ _ _ _ _ _ _ _ _ _ _ _ _ r h => by simp [gimballaw11_MulOnes.l0] at h⟩
 | k + 1 => by
  obtain ⟨ih0, ih1, ih2⟩ := gimballaw11_MulOnes.mono_l k
  refine ⟨?_, ?_, ?_⟩ <;> intros <;> (first | unfold gimballaw11_MulOnes.j0 | unfold gimballaw11_MulOnes.j1 | unfold gimballaw11_MulOnes.l0) <;>
   repeat' with_reducible first | apply ih0 | apply ih1 | apply ih2 | apply gimballaw11_head.mono | apply gimballaw11_made.mono | apply mat_Matrix_Finite.mono | apply mat_Matrix_Same.mono | apply mat_Matrix_Turn.mono | apply mat_One.mono | apply mul_Gemm_nil.mono | exact LeO.refl _ | exact LeO.none _ | refine LeO.ite ?_ ?_ | refine LeO.bind ?_ (fun _ => ?_)
theorem gimballaw11_MulOnes.mono : ∀ a0 a1 a2 a3 k, LeO (gimballaw11_MulOnes.f k a0 a1 a2 a3) (gimballaw11_MulOnes.f (k + 1) a0 a1 a2 a3) := by
 intro a0 a1 a2 a3 k
 obtain ⟨ih0, ih1, ih2⟩ := gimballaw11_MulOnes.mono_l k
 unfold gimballaw11_MulOnes.f
 repeat' with_reducible first | apply ih0 | apply ih1 | apply ih2 | apply gimballaw11_head.mono | apply gimballaw11_made.mono | apply mat_Matrix_Finite.mono | apply mat_Matrix_Same.mono | apply mat_Matrix_Turn.mono | apply mat_One.mono | apply mul_Gemm_nil.mono | exact LeO.refl _ | exact LeO.none _ | refine LeO.ite ?_ ?_ | refine LeO.bind ?_ (fun _ => ?_)
def gimballaw11_MulOnes.T9 : Bool × List (List Nat × List Nat) := (true, [([], []), ([0], [0]), ([1], [1]), ([], []), ([2, 3, 2], [2, 3]), ([4], [4]), ([5], [5]), ([5], [5]), ([], []), ([8, 6, 4, 0, 1, 2, 3, 4, 5, 6, 8], [6, 8]), ([7, 9, 0, 1, 2, 3, 4, 5, 6, 7, 8, 9], [7])])
def gimballaw11_MulOnes.B9 : List Nat := [0, 1, 3, 0, 15, 31, 63, 63, 0, 383, 1023]
theorem gimballaw11_MulOnes.tab9 : rtab .any (opsOf Try.f3 9) = gimballaw11_MulOnes.T9 := by kernel_rfl
theorem gimballaw11_MulOnes.bits9 : waitsOk gimballaw11_MulOnes.T9.2 gimballaw11_MulOnes.B9 = true := by kernel_rfl
def gimballaw11_MulOnes.T10 : Bool × List (List Nat × List Nat) := (true, [([], []), ([], []), ([1], [1]), ([2], [2]), ([0, 3, 3], [0, 3]), ([4], [4]), ([5], [5]), ([5], [5]), ([], []), ([8, 6, 4, 0, 1, 2, 3, 4, 5, 6, 8], [6, 8]), ([7, 9, 0, 1, 2, 3, 4, 5, 6, 7, 8, 9], [7])])
def gimballaw11_MulOnes.B10 : List Nat := [0, 0, 2, 6, 15, 31, 63, 63, 0, 383, 1023]
theorem gimballaw11_MulOnes.tab10 : rtab .any (opsOf Try.f3 10) = gimballaw11_MulOnes.T10 := by kernel_rfl
theorem gimballaw11_MulOnes.bits10 : waitsOk gimballaw11_MulOnes.T10.2 gimballaw11_MulOnes.B10 = true := by kernel_rfl
def gimballaw11_MulOnes.T12 : Bool × List (List Nat × List Nat) := (true, [([], []), ([0], [0]), ([], []), ([2, 1], [2]), ([1, 3, 3], [1, 3]), ([4], [4]), ([5], [5]), ([5], [5]), ([], []), ([8, 6, 4, 0, 1, 2, 3, 4, 5, 6, 8], [6, 8]), ([7, 9, 0, 1, 2, 3, 4, 5, 6, 7, 8, 9], [7])])
def gimballaw11_MulOnes.B12 : List Nat := [0, 1, 0, 7, 15, 31, 63, 63, 0, 383, 1023]
theorem gimballaw11_MulOnes.tab12 : rtab .any (opsOf Try.f3 12) = gimballaw11_MulOnes.T12 := by kernel_rfl
theorem gimballaw11_MulOnes.bits12 : waitsOk gimballaw11_MulOnes.T12.2 gimballaw11_MulOnes.B12 = true := by kernel_rfl
def gimballaw11_MulOnes.T13 : Bool × List (List Nat × List Nat) := (true, [([], []), ([0], [0]), ([1], [1]), ([2], [2]), ([3, 2], [2, 3]), ([2, 4], [2, 4]), ([5, 2], [5]), ([6], [6]), ([7, 6], [6, 7]), ([6, 8], [6, 8]), ([9, 6], [9]), ([10], [10]), ([11, 10], [10, 11]), ([10, 12], [10, 12]), ([13, 10], [13]), ([14], [14]), ([15, 14, 14], [14, 15]), ([14], [14]), ([16, 17, 16, 14], [14, 16, 17]), ([18, 14], [14, 18]), ([14, 19], [14, 19])])
def gimballaw11_MulOnes.B13 : List Nat := [0, 1, 3, 7, 15, 31, 63, 127, 255, 511, 1023, 2047, 4095, 8191, 16383, 32767, 65535, 32767, 262143, 524287, 1048575]
theorem gimballaw11_MulOnes.tab13 : rtab .any (opsOf Try.f3 13) = gimballaw11_MulOnes.T13 := by kernel_rfl
theorem gimballaw11_MulOnes.bits13 : waitsOk gimballaw11_MulOnes.T13.2 gimballaw11_MulOnes.B13 = true := by kernel_rfl
def gimballaw11_MulOnes.T18 : Bool × List (List Nat × List Nat) := (true, [([], []), ([0], [0]), ([], []), ([1, 2], [1, 2]), ([3], [3]), ([], []), ([5], [5]), ([], []), ([6, 7], [6, 7]), ([8], [8]), ([4, 9], [4, 9]), ([10], [10]), ([11], [11]), ([12, 11], [11, 12]), ([11], [11]), ([13, 14, 11], [11, 13, 14]), ([15, 11], [11, 15]), ([16, 11, 11], [11, 16]), ([17, 11], [11, 17]), ([11, 18], [11, 18]), ([19, 17], [19]), ([20], [20]), ([21, 20], [20, 21]), ([20], [20]), ([22, 23, 20], [20, 22, 23]), ([24, 20], [20, 24]), ([20], [20]), ([26, 20], [20, 26]), ([20], [20]), ([27, 28, 20], [20, 27, 28]), ([29, 20], [20, 29]), ([25, 30, 20], [20, 25, 30]), ([31, 20, 20], [20, 31]), ([32], [32]), ([33, 32], [32, 33]), ([32], [32]), ([34, 35, 32], [32, 34, 35]), ([36, 32], [32, 36]), ([37, 32, 32], [32, 37]), ([38, 32], [32, 38]), ([32, 39, 20], [20, 32, 39]), ([20, 40], [20, 40]), ([41, 38], [41]), ([42], [42]), ([43, 42], [42, 43]), ([42], [42]), ([44, 45, 42], [42, 44, 45]), ([46, 42], [42, 46]), ([47, 42, 42], [42, 47]), ([42], [42]), ([49, 42], [42, 49]), ([42], [42]), ([50, 51, 42], [42, 50, 51]), ([52, 42], [42, 52]), ([53, 48, 42], [42, 53]), ([48, 54, 42], [42, 48, 54]), ([42, 55], [42, 55])])
def gimballaw11_MulOnes.B18 : List Nat := [0, 1, 0, 7, 15, 0, 32, 0, 224, 480, 1023, 2047, 4095, 8191, 4095, 32767, 65535, 131071, 262143, 524287, 1048575, 2097151, 4194303, 2097151, 16777215, 33554431, 2097151, 69206015, 2097151, 471859199, 1008730111, 2147483647, 4294967295, 8589934591, 17179869183, 8589934591, 68719476735, 137438953471, 274877906943, 549755813887, 1099511627775, 2199023255551, 4398046511103, 8796093022207, 17592186044415, 8796093022207, 70368744177663, 140737488355327, 281474976710655, 8796093022207, 571746046443519, 8796093022207, 3949445766971391, 8453045394341887, 18014398509481983, 36028797018963967, 72057594037927935]
theorem gimballaw11_MulOnes.tab18 : rtab .any (opsOf Try.f3 18) = gimballaw11_MulOnes.T18 := by kernel_rfl
theorem gimballaw11_MulOnes.bits18 : waitsOk gimballaw11_MulOnes.T18.2 gimballaw11_MulOnes.B18 = true := by kernel_rfl
set_option maxHeartbeats 8000000 in
set_option maxRecDepth 100000 in
theorem gimballaw11_MulOnes.calls (k : Nat) (a0 : Int) (a1 : Int) (a2 : Int) (A3 : Option Addr) (c3 : Nat) (l3 : List Int) (r : Bool) (w : World) (hr3 : Kd.C (Kd.int .u64) w A3 l3.length l3) (hc3 : l3.length ≤ c3) (hLW : r = true) (h : gimballaw11_MulOnes.f k a0 a1 a2 l3 = some r) :
  Calls Try.prog 3 #[.int .i64 a0, .int .i64 a1, .int .i64 a2, .slice A3 l3.length c3] w fun e w' => e = .returned (.bool r) ∧ Below w.heap.size w w' := by
 have hu25 := Try.underlying25
 have HR3 := Aside0.mk hr3
 have HC3 := Aside0.mk hc3
 clear hr3 hc3
 have HB := Aside0.mk (Below.refl w.heap.size w)
 have H : ((gimballaw11_head.f k).bind fun t370 => (if t370 = true then (if (l3.length : Int) > 100 then (some true) else ((gimballaw11_made.f k (Go.bits .and .i64 a0 7) (Go.bits .and .i64 a1 7) l3 0).bind fun bt371 => ((gimballaw11_made.f k (Go.bits .and .i64 a1 7) (Go.bits .and .i64 a2 7) l3 3).bind fun bt378 => ((mat_Matrix_Finite.f k bt371.1 bt371.2.1 bt371.2.2.1 bt371.2.2.2).bind fun t385 => (if t385 = true then ((mat_Matrix_Finite.f k bt378.1 bt378.2.1 bt378.2.2.1 bt378.2.2.2).bind fun t386 => (gimballaw11_MulOnes.j0 k a0 a1 (!t386) bt371.1 bt371.2.1 bt371.2.2.1 bt371.2.2.2 bt378.1 bt378.2.1 bt378.2.2.1 bt378.2.2.2)) else (gimballaw11_MulOnes.j0 k a0 a1 true bt371.1 bt371.2.1 bt371.2.2.1 bt371.2.2.2 bt378.1 bt378.2.1 bt378.2.2.1 bt378.2.2.2)))))) else (some false))) = some r := h
 clear h
 obtain ⟨t370, A50, H⟩ := Option.bind_eq_some_iff.mp H
 (try dsimp -simprocs only at H)
 have A5 := Aside0.mk A50
 clear A50
 by_cases c6 : t370 = true
 rotate_left
 ·
  replace c6 := Bool.eq_false_iff.mpr c6
  subst c6
  rw [if_neg (show ¬ (false = true) by decide)] at H
  rw [hLW] at H
  exact absurd H (by simp)

 subst c6
 rw [if_pos rfl] at H
 by_cases c7 : (l3.length : Int) > 100
 ·
  rw [if_pos c7] at H
  have c7b0 : decide (100 < (l3.length : Int)) = true := decide_eq_true c7
  have c7b1 : decide (100 < l3.length) = true := decide_eq_true (by omega)
  clear c7
  obtain rfl := Option.some.inj H
  go_enter Try.func3, Try.ntmps3
  go_wp2_with (first | ((with_reducible refine gate_callee (f := 5) rfl ?_); refine goesL_ (some 20) rfl rfl Try.func5 (by kernel_rfl) rfl #[] rfl ga ?_; (with_reducible refine (gimballaw11_head.calls k  true _ A5.out).mono ?_); rintro e w8 ⟨rfl, hb⟩; refine ⟨_, rfl, ?_⟩; refine ax1 (below_step bel hb) ?_; clear HB; intro HB; (try clear hb)))
  go_ret
  exact ⟨er, bel⟩
 ·
  rw [if_neg c7] at H
  have c7b0 : decide (100 < (l3.length : Int)) = false := decide_eq_false c7
  have c7b1 : decide (100 < l3.length) = false := decide_eq_false (by omega)
  clear c7
  obtain ⟨⟨t371, t372, t373, t374⟩, A90, H⟩ := Option.bind_eq_some_iff.mp H
  (try dsimp -simprocs only at H)
  have A9 := Aside0.mk A90
  clear A90
  obtain ⟨⟨t378, t379, t380, t381⟩, A100, H⟩ := Option.bind_eq_some_iff.mp H
  (try dsimp -simprocs only at H)
  have A10 := Aside0.mk A100
  clear A100
  have HC11 := Aside0.mk H
  clear H
  go_enter Try.func3, Try.ntmps3
  go_upto_region 7 with (first | ((with_reducible refine gate_callee (f := 5) rfl ?_); refine goesL_ (some 20) rfl rfl Try.func5 (by kernel_rfl) rfl #[] rfl ga ?_; (with_reducible refine (gimballaw11_head.calls k  true _ A5.out).mono ?_); rintro e w12 ⟨rfl, hb⟩; refine ⟨_, rfl, ?_⟩; refine ax1 (below_step bel hb) ?_; clear HB; intro HB; (try clear hb)) | ((with_reducible refine gate_callee (f := 6) rfl ?_); refine goesL_ (some 30) rfl rfl Try.func6 (by kernel_rfl) rfl #[.int .i64 (Go.bits .and .i64 a0 7), .int .i64 (Go.bits .and .i64 a1 7), .slice A3 l3.length c3, .int .i64 0] rfl ga ?_; (with_reducible refine (gimballaw11_made.calls k (Go.bits .and .i64 a0 7) (Go.bits .and .i64 a1 7) _ _ l3 0 t371 t372 t373 t374 _ ?side1 ?side2 A9.out).mono ?_); (case side1 => repeat (first | exact (Kd.C_below HR3.out HB.out) | (with_reducible refine Kd.C_alloc ?_ _) | (with_reducible refine Kd.C_drewN ?_ _) | (with_reducible refine Kd.C_drew ?_))); (case side2 => exact HC3.out); rintro e w13 ⟨v375, rfl, ho0, hb⟩; refine ⟨_, rfl, ?_⟩; refine ax2 (Kd.R_lower ho0 (below_size bel)) (below_step bel hb) ?_; clear HB; intro HO376 HB; (try clear hb); (try clear ho0)) | ((with_reducible refine gate_dst (N := 9) rfl ?_); refine gbox (N := 9) (cs := #[.int .i64 0, .int .i64 0, .int .i64 0, .slice none 0 0]) (t := 25) ?_; intro gb377 hg w14 hbox hb; refine ax5 (Kd.R_below (kr HO376) hb) (below_step bel hb) hbox ((ge hg : w.heap.size ≤ gb377)) ((ge hg : w.heap.size ≤ gb377)) ?_; clear HO376; clear HB; intro HO376 HB BK377 GW377 GE377; clear hb hbox hg; have hcz15_0 := bc BK377 0 rfl; have hcz15_1 := bc BK377 1 rfl; have hcz15_2 := bc BK377 2 rfl; have hcz15_3 := bc BK377 3 rfl; have hfz15_0 := blk_frozen BK377.out 0; have hfz15_1 := blk_frozen BK377.out 1; have hfz15_2 := blk_frozen BK377.out 2; have hfz15_3 := blk_frozen BK377.out 3; obtain ⟨Ao16, co16, eo16⟩ := Kd.R_slice HO376.out; subst eo16) | ((with_reducible refine gate_callee (f := 6) rfl ?_); refine goesL_ (some 36) rfl rfl Try.func6 (by kernel_rfl) rfl #[.int .i64 (Go.bits .and .i64 a1 7), .int .i64 (Go.bits .and .i64 a2 7), .slice A3 l3.length c3, .int .i64 3] rfl ga ?_; (with_reducible refine (gimballaw11_made.calls k (Go.bits .and .i64 a1 7) (Go.bits .and .i64 a2 7) _ _ l3 3 t378 t379 t380 t381 _ ?side1 ?side2 A10.out).mono ?_); (case side1 => exact Kd.C_below HR3.out bes); (case side2 => exact HC3.out); rintro e w17 ⟨v382, rfl, ho0, hb⟩; refine ⟨_, rfl, ?_⟩; refine ax4 (Kd.R_elder' (by (with_reducible repeat (first | apply Kd.R_alloc | apply Kd.R_drewN | apply Kd.R_drew)); exact (Kd.R_mono (Kd.R_far (p := ⟨gb377, 3, none⟩) (Kd.R_far (p := ⟨gb377, 2, none⟩) (Kd.R_far (p := ⟨gb377, 1, none⟩) (Kd.R_far (p := ⟨gb377, 0, none⟩) (Kd.R_types HO376.out BK377.out (by decide)) (fun _ hk => hk.2) (.int .i64 t371)) (fun _ hk => hk.2) (.int .i64 t372)) (fun _ hk => hk.2) (.int .i64 t373)) (fun _ hk => hk.2) (.slice Ao16 t374.length co16)) (fun _ h_ => h_.1))) (Kd.R_base ho0) hb) (Kd.R_lower (Kd.R_new' ho0 (Kd.R_lt (by (with_reducible repeat (first | apply Kd.R_alloc | apply Kd.R_drewN | apply Kd.R_drew)); exact (Kd.R_mono (Kd.R_far (p := ⟨gb377, 3, none⟩) (Kd.R_far (p := ⟨gb377, 2, none⟩) (Kd.R_far (p := ⟨gb377, 1, none⟩) (Kd.R_far (p := ⟨gb377, 0, none⟩) (Kd.R_types HO376.out BK377.out (by decide)) (fun _ hk => hk.2) (.int .i64 t371)) (fun _ hk => hk.2) (.int .i64 t372)) (fun _ hk => hk.2) (.int .i64 t373)) (fun _ hk => hk.2) (.slice Ao16 t374.length co16)) (fun _ h_ => h_.1))))) (below_size bes)) (blk_below (g := gb377) (o := .cells #[.int .i64 t371, .int .i64 t372, .int .i64 t373, .slice Ao16 t374.length co16] 25 (0, 0)) (bp BK377) hb) (below_step bes hb) ?_; clear HO376; clear BK377; clear HB; intro HO376 HO383 BK377 HB; (try clear hb); (try clear ho0)) | ((with_reducible refine gate_dst (N := 10) rfl ?_); refine gbox (N := 10) (cs := #[.int .i64 0, .int .i64 0, .int .i64 0, .slice none 0 0]) (t := 25) ?_; intro gb384 hg w18 hbox hb; refine ax9 (Kd.R_below (kr HO376) hb) (Kd.R_below (kr HO383) hb) (bb BK377 hb) (below_step bes hb) hbox ((ge hg : w.heap.size ≤ gb384)) ((ge hg : w.heap.size ≤ gb384)) (nl hg BK377) (ng hg BK377) ?_; clear HO376; clear HO383; clear BK377; clear HB; intro HO376 HO383 BK377 HB BK384 GW384 GE384 NB377_384 NB384_377; clear hb hbox hg; have hnb19 := NB384_377.out; have hnc19 := NB377_384.out; have hcz20_0 := bc BK384 0 rfl; have hcz20_1 := bc BK384 1 rfl; have hcz20_2 := bc BK384 2 rfl; have hcz20_3 := bc BK384 3 rfl; have hfz20_0 := blk_frozen BK384.out 0; have hfz20_1 := blk_frozen BK384.out 1; have hfz20_2 := blk_frozen BK384.out 2; have hfz20_3 := blk_frozen BK384.out 3; obtain ⟨Ao21, co21, eo21⟩ := Kd.R_slice HO383.out; subst eo21))
  (try simp only [Act.put, sa0, sa1, sa2])
  go_cut [44] (fun v44 wc => ∃ (kq : Nat) (x44_10 : Bool), v44 = .bool x44_10 ∧ Aside0 (gimballaw11_MulOnes.j0 kq a0 a1 x44_10 t371 t372 t373 t374 t378 t379 t380 t381 = some r) ∧ Aside0 (kq ≤ k) ∧ Aside0 (Kd.R (Kd.int .u64) 33 wc w.heap.size (fun k_ => some k_ ≠ ((.slice Ao21 t381.length co21) : Value).ownBlock) (.slice Ao16 t374.length co16) t374) ∧ Aside0 (Kd.R (Kd.int .u64) 33 wc w.heap.size (fun k_ => some k_ ≠ ((.slice Ao16 t374.length co16) : Value).ownBlock) (.slice Ao21 t381.length co21) t381) ∧ Aside0 (wc.heap[gb377]? = some (.cells #[.int .i64 t371, .int .i64 t372, .int .i64 t373, (.slice Ao16 t374.length co16)] 25 (0, 0))) ∧ Aside0 (wc.heap[gb384]? = some (.cells #[.int .i64 t378, .int .i64 t379, .int .i64 t380, (.slice Ao21 t381.length co21)] 25 (0, 0))) ∧ Aside0 (Below w.heap.size w wc))
  case first => as_aux_lemma =>
   have H := HC11.out
   clear HC11
   obtain ⟨t385, A220, H⟩ := Option.bind_eq_some_iff.mp H
   (try dsimp -simprocs only at H)
   have A22 := Aside0.mk A220
   clear A220
   by_cases c23 : t385 = true
   ·
    subst c23
    rw [if_pos rfl] at H
    obtain ⟨t386, A240, H⟩ := Option.bind_eq_some_iff.mp H
    (try dsimp -simprocs only at H)
    have A24 := Aside0.mk A240
    clear A240
    have H' := Aside0.mk H
    clear H
    have hnb25 := NB377_384.out
    have hnc25 := NB384_377.out
    have hcz26_0 := bc BK377 0 rfl
    have hcz26_1 := bc BK377 1 rfl
    have hcz26_2 := bc BK377 2 rfl
    have hcz26_3 := bc BK377 3 rfl
    have hfz26_0 := blk_frozen BK377.out 0
    have hfz26_1 := blk_frozen BK377.out 1
    have hfz26_2 := blk_frozen BK377.out 2
    have hfz26_3 := blk_frozen BK377.out 3
    go_wp2_with (first | ((with_reducible refine gate_callee (f := 7) rfl ?_); refine goesL_ (some 38) rfl rfl Try.func7 (by kernel_rfl) rfl #[.agg #[.int .i64 t371, .int .i64 t372, .int .i64 t373, .slice Ao16 t374.length co16]] rfl ga ?_; (with_reducible refine (mat_Matrix_Finite.calls k t371 t372 t373 _ _ t374 true _ ?side1 ?side2 A22.out).mono ?_); (case side1 => refine (Kd.R_reads' (e := 33) (base := w.heap.size) (ok := fun k_ => (True ∧ some k_ ≠ (.slice Ao21 t381.length co21 : Value).ownBlock)) (n := t374.length) (c := co16) ?_).2.2; exact (by (with_reducible repeat (first | apply Kd.R_alloc | apply Kd.R_drewN | apply Kd.R_drew)); exact (Kd.R_mono (Kd.R_far (p := ⟨gb384, 3, none⟩) (Kd.R_far (p := ⟨gb384, 2, none⟩) (Kd.R_far (p := ⟨gb384, 1, none⟩) (Kd.R_far (p := ⟨gb384, 0, none⟩) (Kd.R_types HO376.out BK384.out (by decide)) (fun _ hk => hk.2) (.int .i64 t378)) (fun _ hk => hk.2) (.int .i64 t379)) (fun _ hk => hk.2) (.int .i64 t380)) (fun _ hk => hk.2) (.slice Ao21 t381.length co21)) (fun _ h_ => h_.1)))); (case side2 => exact (Kd.R_reads' HO376.out).2.1); rintro e w27 ⟨rfl, hb⟩; refine ⟨_, rfl, ?_⟩; refine ax5 (Kd.R_below (by (with_reducible repeat (first | apply Kd.R_alloc | apply Kd.R_drewN | apply Kd.R_drew)); exact (Kd.R_mono (Kd.R_far (p := ⟨gb384, 3, none⟩) (Kd.R_far (p := ⟨gb384, 2, none⟩) (Kd.R_far (p := ⟨gb384, 1, none⟩) (Kd.R_far (p := ⟨gb384, 0, none⟩) (Kd.R_types HO376.out BK384.out (by decide)) (fun _ hk => hk.2) (.int .i64 t378)) (fun _ hk => hk.2) (.int .i64 t379)) (fun _ hk => hk.2) (.int .i64 t380)) (fun _ hk => hk.2) (.slice Ao21 t381.length co21)) (fun _ h_ => h_.1))) hb) (Kd.R_below (by (with_reducible repeat (first | apply Kd.R_alloc | apply Kd.R_drewN | apply Kd.R_drew)); exact (Kd.R_mono (Kd.R_far (p := ⟨gb384, 3, none⟩) (Kd.R_far (p := ⟨gb384, 2, none⟩) (Kd.R_far (p := ⟨gb384, 1, none⟩) (Kd.R_far (p := ⟨gb384, 0, none⟩) (Kd.R_types HO383.out BK384.out (by decide)) (fun _ hk => hk.2) (.int .i64 t378)) (fun _ hk => hk.2) (.int .i64 t379)) (fun _ hk => hk.2) (.int .i64 t380)) (fun _ hk => hk.2) (.slice Ao21 t381.length co21)) (fun _ h_ => h_.1))) hb) (blk_below (g := gb377) (o := .cells #[.int .i64 t371, .int .i64 t372, .int .i64 t373, .slice Ao16 t374.length co16] 25 (0, 0)) (bf BK377 NB377_384) hb) (blk_below (g := gb384) (o := .cells #[.int .i64 t378, .int .i64 t379, .int .i64 t380, .slice Ao21 t381.length co21] 25 (0, 0)) (bp BK384) hb) (below_step bes hb) ?_; clear HO376; clear HO383; clear BK377; clear BK384; clear HB; intro HO376 HO383 BK377 BK384 HB; (try clear hb); have hcz28_0 := bc BK384 0 rfl; have hcz28_1 := bc BK384 1 rfl; have hcz28_2 := bc BK384 2 rfl; have hcz28_3 := bc BK384 3 rfl; have hfz28_0 := blk_frozen BK384.out 0; have hfz28_1 := blk_frozen BK384.out 1; have hfz28_2 := blk_frozen BK384.out 2; have hfz28_3 := blk_frozen BK384.out 3) | (go_at_call 7; (with_reducible refine (mat_Matrix_Finite.calls k t378 t379 t380 _ _ t381 t386 _ ?side1 ?side2 A24.out).mono ?_); (case side1 => exact ks HO383); (case side2 => exact (Kd.R_reads' HO383.out).2.1); rintro e w29 ⟨rfl, hb⟩; refine ax5 (Kd.R_below (kr HO376) hb) (Kd.R_below (kr HO383) hb) (bb BK377 hb) (bb BK384 hb) (below_step bes hb) ?_; clear HO376; clear HO383; clear BK377; clear BK384; clear HB; intro HO376 HO383 BK377 BK384 HB; (try clear hb)))
    go_meet
    case rel => exact ⟨_, (!t386), (by first | rfl | (simp; done) | (simp [*]; done)), H', ⟨by first | omega | exact Nat.le_refl _⟩, ⟨by (with_reducible repeat (first | apply Kd.R_alloc | apply Kd.R_drewN | apply Kd.R_drew)); exact Kd.R_mono HO376.out (fun _ hk => hk.2)⟩, ⟨by (with_reducible repeat (first | apply Kd.R_alloc | apply Kd.R_drewN | apply Kd.R_drew)); exact Kd.R_mono HO383.out (fun _ hk => hk.2)⟩, ⟨kb BK377⟩, ⟨kb BK384⟩, ⟨bes⟩⟩
   ·
    replace c23 := Bool.eq_false_iff.mpr c23
    subst c23
    rw [if_neg (show ¬ (false = true) by decide)] at H
    have H' := Aside0.mk H
    clear H
    have hnb30 := NB377_384.out
    have hnc30 := NB384_377.out
    have hcz31_0 := bc BK377 0 rfl
    have hcz31_1 := bc BK377 1 rfl
    have hcz31_2 := bc BK377 2 rfl
    have hcz31_3 := bc BK377 3 rfl
    have hfz31_0 := blk_frozen BK377.out 0
    have hfz31_1 := blk_frozen BK377.out 1
    have hfz31_2 := blk_frozen BK377.out 2
    have hfz31_3 := blk_frozen BK377.out 3
    go_wp2_with (first | ((with_reducible refine gate_callee (f := 7) rfl ?_); refine goesL_ (some 38) rfl rfl Try.func7 (by kernel_rfl) rfl #[.agg #[.int .i64 t371, .int .i64 t372, .int .i64 t373, .slice Ao16 t374.length co16]] rfl ga ?_; (with_reducible refine (mat_Matrix_Finite.calls k t371 t372 t373 _ _ t374 false _ ?side1 ?side2 A22.out).mono ?_); (case side1 => refine (Kd.R_reads' (e := 33) (base := w.heap.size) (ok := fun k_ => (True ∧ some k_ ≠ (.slice Ao21 t381.length co21 : Value).ownBlock)) (n := t374.length) (c := co16) ?_).2.2; exact (by (with_reducible repeat (first | apply Kd.R_alloc | apply Kd.R_drewN | apply Kd.R_drew)); exact (Kd.R_mono (Kd.R_far (p := ⟨gb384, 3, none⟩) (Kd.R_far (p := ⟨gb384, 2, none⟩) (Kd.R_far (p := ⟨gb384, 1, none⟩) (Kd.R_far (p := ⟨gb384, 0, none⟩) (Kd.R_types HO376.out BK384.out (by decide)) (fun _ hk => hk.2) (.int .i64 t378)) (fun _ hk => hk.2) (.int .i64 t379)) (fun _ hk => hk.2) (.int .i64 t380)) (fun _ hk => hk.2) (.slice Ao21 t381.length co21)) (fun _ h_ => h_.1)))); (case side2 => exact (Kd.R_reads' HO376.out).2.1); rintro e w32 ⟨rfl, hb⟩; refine ⟨_, rfl, ?_⟩; refine ax5 (Kd.R_below (by (with_reducible repeat (first | apply Kd.R_alloc | apply Kd.R_drewN | apply Kd.R_drew)); exact (Kd.R_mono (Kd.R_far (p := ⟨gb384, 3, none⟩) (Kd.R_far (p := ⟨gb384, 2, none⟩) (Kd.R_far (p := ⟨gb384, 1, none⟩) (Kd.R_far (p := ⟨gb384, 0, none⟩) (Kd.R_types HO376.out BK384.out (by decide)) (fun _ hk => hk.2) (.int .i64 t378)) (fun _ hk => hk.2) (.int .i64 t379)) (fun _ hk => hk.2) (.int .i64 t380)) (fun _ hk => hk.2) (.slice Ao21 t381.length co21)) (fun _ h_ => h_.1))) hb) (Kd.R_below (by (with_reducible repeat (first | apply Kd.R_alloc | apply Kd.R_drewN | apply Kd.R_drew)); exact (Kd.R_mono (Kd.R_far (p := ⟨gb384, 3, none⟩) (Kd.R_far (p := ⟨gb384, 2, none⟩) (Kd.R_far (p := ⟨gb384, 1, none⟩) (Kd.R_far (p := ⟨gb384, 0, none⟩) (Kd.R_types HO383.out BK384.out (by decide)) (fun _ hk => hk.2) (.int .i64 t378)) (fun _ hk => hk.2) (.int .i64 t379)) (fun _ hk => hk.2) (.int .i64 t380)) (fun _ hk => hk.2) (.slice Ao21 t381.length co21)) (fun _ h_ => h_.1))) hb) (blk_below (g := gb377) (o := .cells #[.int .i64 t371, .int .i64 t372, .int .i64 t373, .slice Ao16 t374.length co16] 25 (0, 0)) (bf BK377 NB377_384) hb) (blk_below (g := gb384) (o := .cells #[.int .i64 t378, .int .i64 t379, .int .i64 t380, .slice Ao21 t381.length co21] 25 (0, 0)) (bp BK384) hb) (below_step bes hb) ?_; clear HO376; clear HO383; clear BK377; clear BK384; clear HB; intro HO376 HO383 BK377 BK384 HB; (try clear hb)))
    go_meet
    case rel => exact ⟨_, (true), (by first | rfl | (simp; done) | (simp [*]; done)), H', ⟨by first | omega | exact Nat.le_refl _⟩, ⟨by (with_reducible repeat (first | apply Kd.R_alloc | apply Kd.R_drewN | apply Kd.R_drew)); exact Kd.R_mono HO376.out (fun _ hk => hk.2)⟩, ⟨by (with_reducible repeat (first | apply Kd.R_alloc | apply Kd.R_drewN | apply Kd.R_drew)); exact Kd.R_mono HO383.out (fun _ hk => hk.2)⟩, ⟨kb BK377⟩, ⟨kb BK384⟩, ⟨bes⟩⟩
  case rest => as_aux_lemma =>
   clear HC11
   try clear c1
   try clear c2
   try clear p2
   try clear c3
   try clear c5
   try clear c6
   try clear c7
   try clear c7b0
   try clear c7b1
   try clear c19
   try clear c23
   try clear c25
   try clear c30
   try clear hcz15_0
   try clear hcz15_1
   try clear hcz15_2
   try clear hcz15_3
   try clear hcz20_0
   try clear hcz20_1
   try clear hcz20_2
   try clear hcz20_3
   try clear hcz26_0
   try clear hcz26_1
   try clear hcz26_2
   try clear hcz26_3
   try clear hcz28_0
   try clear hcz28_1
   try clear hcz28_2
   try clear hcz28_3
   try clear hcz31_0
   try clear hcz31_1
   try clear hcz31_2
   try clear hcz31_3
   try clear hfz15_0
   try clear hfz15_1
   try clear hfz15_2
   try clear hfz15_3
   try clear hfz20_0
   try clear hfz20_1
   try clear hfz20_2
   try clear hfz20_3
   try clear hfz26_0
   try clear hfz26_1
   try clear hfz26_2
   try clear hfz26_3
   try clear hfz28_0
   try clear hfz28_1
   try clear hfz28_2
   try clear hfz28_3
   try clear hfz31_0
   try clear hfz31_1
   try clear hfz31_2
   try clear hfz31_3
   obtain ⟨kq, x44_10, rfl, HA, HJ10, HO_378003, HO_385003, BK377, BK384, HB⟩ := hcut
   cases kq with
   | zero => exact absurd HA.out (by simp [gimballaw11_MulOnes.j0])
   | succ kj10 =>
    have H := HA.out
    clear HA
    simp only [gimballaw11_MulOnes.j0] at H
    by_cases c33 : x44_10 = true
    ·
     subst c33
     rw [if_pos rfl] at H
     obtain rfl := Option.some.inj H
     go_wp2
     go_ret
     exact ⟨er, bes⟩
    ·
     replace c33 := Bool.eq_false_iff.mpr c33
     subst c33
     rw [if_neg (show ¬ (false = true) by decide)] at H
     obtain ⟨⟨t387, t388, t389, t390⟩, A340, H⟩ := Option.bind_eq_some_iff.mp H
     (try dsimp -simprocs only at H)
     have A34 := Aside0.mk A340
     clear A340
     obtain ⟨⟨t393, t394, t395, t396, t399⟩, A350, H⟩ := Option.bind_eq_some_iff.mp H
     (try dsimp -simprocs only at H)
     have A35 := Aside0.mk A350
     clear A350
     obtain ⟨⟨t401, t402, t403, t404⟩, A360, H⟩ := Option.bind_eq_some_iff.mp H
     (try dsimp -simprocs only at H)
     have A36 := Aside0.mk A360
     clear A360
     obtain ⟨⟨t407, t408, t409, t410, t413⟩, A370, H⟩ := Option.bind_eq_some_iff.mp H
     (try dsimp -simprocs only at H)
     have A37 := Aside0.mk A370
     clear A370
     obtain ⟨⟨t415, t416, t417, t418, t421⟩, A380, H⟩ := Option.bind_eq_some_iff.mp H
     (try dsimp -simprocs only at H)
     have A38 := Aside0.mk A380
     clear A380
     obtain ⟨⟨t423, t424, t425, t426⟩, A390, H⟩ := Option.bind_eq_some_iff.mp H
     (try dsimp -simprocs only at H)
     have A39 := Aside0.mk A390
     clear A390
     obtain ⟨⟨t429, t430, t431, t432⟩, A400, H⟩ := Option.bind_eq_some_iff.mp H
     (try dsimp -simprocs only at H)
     have A40 := Aside0.mk A400
     clear A400
     obtain ⟨⟨t435, t436, t437, t438, t441⟩, A410, H⟩ := Option.bind_eq_some_iff.mp H
     (try dsimp -simprocs only at H)
     have A41 := Aside0.mk A410
     clear A410
     have HC42 := Aside0.mk H
     clear H
     try go_wp2
     refine ax5 (Kd.R_drew HO_378003.out) (Kd.R_drew HO_385003.out) (blk_drew BK377.out) (blk_drew BK384.out) (below_drew1 HB.out) ?_
     clear HO_378003 HO_385003 BK377 BK384 HB
     intro HO_378003 HO_385003 BK377 BK384 HB
     refine start_ (n := 11) (S := fun w' => w'.cell? ⟨gb377, 0, none⟩ = some (.int .i64 t371) ∧ w'.cell? ⟨gb377, 1, none⟩ = some (.int .i64 t372) ∧ w'.cell? ⟨gb377, 2, none⟩ = some (.int .i64 t373) ∧ w'.cell? ⟨gb377, 3, none⟩ = some (.slice Ao16 t374.length co16)) (ds := []) #[false, false, false, false, false, false, false, false, false, false, false] (by kernel_rfl) rfl rfl ⟨bk BK377 0, bk BK377 1, bk BK377 2, bk BK377 3⟩ (fun hHeld => ?_); refine with_tabW gimballaw11_MulOnes.tab9 gimballaw11_MulOnes.bits9 (fun HT_ HW_ => ?_)
     generalize wc.drew = w43 at HO_378003 HO_385003 BK377 BK384 HB hHeld ⊢
     refine pu 0 46 (lm 11 1) HT_ ?_
     refine pu 1 47 (lm 11 3) HT_ ?_
     refine ta 3 49 (lm 11 11) HT_ HW_ hHeld ?_
     refine join_ (σ := Value × Value × Nat) 2 #[true, true, true, true, true, true, true, true, true, false, false] (fun s_ => [(48, .agg #[.int .i64 t387, .int .i64 t388, .int .i64 t389, s_.1]), (50, .tuple #[.agg #[.int .i64 t393, .int .i64 t394, .int .i64 t395, s_.2.1], .int .i64 t399]), (11, .pointer (some ⟨s_.2.2, 0, none⟩)), (45, .tuple #[.agg #[.int .i64 t393, .int .i64 t394, .int .i64 t395, s_.2.1], .int .i64 t399]), (51, .agg #[.int .i64 t393, .int .i64 t394, .int .i64 t395, s_.2.1]), (52, .int .i64 t399)]) (fun s_ w' => (w'.cell? ⟨gb377, 0, none⟩ = some (.int .i64 t371) ∧ w'.cell? ⟨gb377, 1, none⟩ = some (.int .i64 t372) ∧ w'.cell? ⟨gb377, 2, none⟩ = some (.int .i64 t373) ∧ w'.cell? ⟨gb377, 3, none⟩ = some (.slice Ao16 t374.length co16)) ∧ (Kd.R (Kd.int .u64) 33 w' w.heap.size (fun k_ => some k_ ≠ (s_.2.1 : Value).ownBlock ∧ some k_ ≠ (.slice Ao16 t374.length co16 : Value).ownBlock ∧ some k_ ≠ (.slice Ao21 t381.length co21 : Value).ownBlock) s_.1 t390) ∧ (Kd.R (Kd.int .u64) 33 w' w.heap.size (fun k_ => some k_ ≠ (s_.1 : Value).ownBlock ∧ some k_ ≠ (.slice Ao16 t374.length co16 : Value).ownBlock ∧ some k_ ≠ (.slice Ao21 t381.length co21 : Value).ownBlock) s_.2.1 t396) ∧ (Kd.R (Kd.int .u64) 33 w' w.heap.size (fun k_ => some k_ ≠ (s_.1 : Value).ownBlock ∧ some k_ ≠ (s_.2.1 : Value).ownBlock ∧ some k_ ≠ (.slice Ao21 t381.length co21 : Value).ownBlock) (.slice Ao16 t374.length co16) t374) ∧ (Kd.R (Kd.int .u64) 33 w' w.heap.size (fun k_ => some k_ ≠ (s_.1 : Value).ownBlock ∧ some k_ ≠ (s_.2.1 : Value).ownBlock ∧ some k_ ≠ (.slice Ao16 t374.length co16 : Value).ownBlock) (.slice Ao21 t381.length co21) t381) ∧ (w'.heap[gb377]? = some (.cells #[.int .i64 t371, .int .i64 t372, .int .i64 t373, .slice Ao16 t374.length co16] 25 (0, 0))) ∧ (w'.heap[gb384]? = some (.cells #[.int .i64 t378, .int .i64 t379, .int .i64 t380, .slice Ao21 t381.length co21] 25 (0, 0))) ∧ (w'.heap[s_.2.2]? = some (.cells #[.int .i64 0, .int .i64 0, .int .i64 0, .slice none 0 0] 25 (0, 0))) ∧ (w.heap.size ≤ s_.2.2) ∧ (w.heap.size ≤ s_.2.2) ∧ (gb377 ≠ s_.2.2) ∧ (s_.2.2 ≠ gb377) ∧ (gb384 ≠ s_.2.2) ∧ (s_.2.2 ≠ gb384) ∧ (Below w.heap.size w w')) ?_ ?_
     rotate_left
     ·
      intro hCont
      refine two_ (i := 2) (j := 8) (Ni := some 48) (Nj := some 11) #[true, true, true, true, false, false, false, false, false, false, false] #[true, true, false, true, false, false, false, false, true, false, false] rfl rfl rfl rfl (two_of HT_.out (by kernel_rfl)) (by decide) (by decide) (fun K hK => ?_) (fun K hK => ?_)
      ·
       skip
       refine goes_ Try.func9 (by kernel_rfl) rfl #[.int .i64 (Go.bits .and .i64 a0 7)] (by rfl) rfl rfl ga ?_
       with_reducible refine (mat_One.calls kj10 (Go.bits .and .i64 a0 7) t387 t388 t389 t390 _ A34.out).mono ?_
       rintro e w44 ⟨v391, rfl, ho0, hb⟩
       refine ⟨_, rfl, ?_⟩
       refine ax6 (Kd.R_elder' (kr HO_378003) (Kd.R_base ho0) hb) (Kd.R_elder' (kr HO_385003) (Kd.R_base ho0) hb) (Kd.R_lower (Kd.R_new' (Kd.R_new' ho0 (Kd.R_lt (kr HO_378003))) (Kd.R_lt (kr HO_385003))) (below_size bes)) (bb BK377 hb) (bb BK384 hb) (below_step bes hb) ?_
       clear HO_378003 HO_385003 BK377 BK384 HB
       intro HO_378003 HO_385003 HO392 BK377 BK384 HB
       (try clear hb)
       (try clear hb2)
       (try clear hk)
       (try clear hi)
       (try clear ho0)
       obtain ⟨Ao45, co45, eo45⟩ := Kd.R_slice HO392.out
       (first | subst eo45 | (injection eo45 with f1_ f2_ f3_; have f4_ := f1_.symm; have f5_ := f3_.symm; clear f1_ f2_ f3_; subst f4_; subst f5_))
       refine hK.out _ _ ⟨bk BK377 0, bk BK377 1, bk BK377 2, bk BK377 3⟩ (fun hHeld => ?_)
       clear hK K
       refine no 48 ?_
       refine two_ (i := 4) (j := 8) (Ni := some 50) (Nj := some 11) #[true, true, true, true, true, false, false, false, false, false, false] #[true, true, true, true, false, false, false, false, true, false, false] rfl rfl rfl rfl (two_of HT_.out (by kernel_rfl)) (by decide) (by decide) (fun K hK => ?_) (fun K hK => ?_)
       ·
        skip
        refine goes_ Try.func8 (by kernel_rfl) rfl #[.pointer none, .agg #[.int .i64 t387, .int .i64 t388, .int .i64 t389, .slice Ao45 t390.length co45], .agg #[.int .i64 t371, .int .i64 t372, .int .i64 t373, .slice Ao16 t374.length co16]] (by rfl) rfl rfl ga ?_
        with_reducible refine (mul_Gemm_nil.calls kj10  t387 t388 t389 _ _ t390 t371 t372 t373 _ _ t374 t393 t394 t395 t396 t399 _ ?side1 ?side2 ?side3 ?side4 A35.out).mono ?_
        (case side1 => exact ks HO392)
        (case side2 => exact (Kd.R_reads' HO392.out).2.1)
        (case side3 => exact ks HO_378003)
        (case side4 => exact (Kd.R_reads' HO_378003.out).2.1)
        rintro e w46 ⟨v397, rfl, ho0, hb⟩
        refine ⟨_, rfl, ?_⟩
        refine ax7 (Kd.R_elder' (kr HO_378003) (Kd.R_base ho0) hb) (Kd.R_elder' (kr HO_385003) (Kd.R_base ho0) hb) (Kd.R_elder' (kr HO392) (Kd.R_base ho0) hb) (Kd.R_lower (Kd.R_new' (Kd.R_new' (Kd.R_new' ho0 (Kd.R_lt (kr HO_378003))) (Kd.R_lt (kr HO_385003))) (Kd.R_lt (kr HO392))) (below_size bes)) (bb BK377 hb) (bb BK384 hb) (below_step bes hb) ?_
        clear HO_378003 HO_385003 HO392 BK377 BK384 HB
        intro HO_378003 HO_385003 HO392 HO398 BK377 BK384 HB
        (try clear hb)
        (try clear hb2)
        (try clear hk)
        (try clear hi)
        (try clear ho0)
        refine hK.out _ _ ⟨bk BK377 0, bk BK377 1, bk BK377 2, bk BK377 3⟩ (fun hHeld => ?_)
        clear hK K
        refine no 50 ?_
        refine pu 5 45 (lm 11 63) HT_ ?_
        refine pu 6 51 (lm 11 127) HT_ ?_
        refine pu 7 52 (lm 11 255) HT_ ?_
        refine on 8 (some 11) (lm 11 511) HT_ (fun K hK => ?_)
        refine box_step ?hg (N := 11) ?hd (cs := #[.int .i64 0, .int .i64 0, .int .i64 0, .slice none 0 0]) (t := 25) ?hr ?_; (case hd => rfl); (case hg => rfl); (case hr => first | (go_simp; done) | (go_simp; rfl))
        intro gb400 hg w47 hbox hb
        refine ax14 (Kd.R_below (kr HO_378003) hb) (Kd.R_below (kr HO_385003) hb) (Kd.R_below (kr HO392) hb) (Kd.R_below (kr HO398) hb) (bb BK377 hb) (bb BK384 hb) (below_step bes hb) hbox ((ge hg : w.heap.size ≤ gb400)) ((ge hg : w.heap.size ≤ gb400)) (nl hg BK377) (ng hg BK377) (nl hg BK384) (ng hg BK384) ?_
        clear HO_378003 HO_385003 HO392 HO398 BK377 BK384 HB
        intro HO_378003 HO_385003 HO392 HO398 BK377 BK384 HB BK400 GW400 GE400 NB377_400 NB400_377 NB384_400 NB400_384
        clear hb hbox hg
        refine hK.out _ _ ⟨bk BK377 0, bk BK377 1, bk BK377 2, bk BK377 3⟩ (fun hHeld => ?_)
        clear hK K
        refine no 11 ?_
        exact nP (hCont (.slice Ao45 t390.length co45, v397, gb400) _ ⟨hHeld, (km HO392 fun _ hk => ⟨hk.2, ⟨hk.1.1.2, hk.1.2⟩⟩), (km HO398 fun _ hk => ⟨hk.2, ⟨hk.1.1.2, hk.1.2⟩⟩), (km HO_378003 fun _ hk => ⟨hk.1.2, ⟨hk.2, hk.1.1⟩⟩), (km HO_385003 fun _ hk => ⟨hk.1.2, ⟨hk.2, hk.1.1⟩⟩), (kb BK377), (kb BK384), (kb BK400), GW400.out, GE400.out, NB377_400.out, NB400_377.out, NB384_400.out, NB400_384.out, bes⟩)
       ·
        skip
        refine box_step ?hg (N := 11) ?hd (cs := #[.int .i64 0, .int .i64 0, .int .i64 0, .slice none 0 0]) (t := 25) ?hr ?_; (case hd => rfl); (case hg => rfl); (case hr => first | (go_simp; done) | (go_simp; rfl))
        intro gb400 hg w45 hbox hb
        refine ax13 (Kd.R_below (kr HO_378003) hb) (Kd.R_below (kr HO_385003) hb) (Kd.R_below (kr HO392) hb) (bb BK377 hb) (bb BK384 hb) (below_step bes hb) hbox ((ge hg : w.heap.size ≤ gb400)) ((ge hg : w.heap.size ≤ gb400)) (nl hg BK377) (ng hg BK377) (nl hg BK384) (ng hg BK384) ?_
        clear HO_378003 HO_385003 HO392 BK377 BK384 HB
        intro HO_378003 HO_385003 HO392 BK377 BK384 HB BK400 GW400 GE400 NB377_400 NB400_377 NB384_400 NB400_384
        clear hb hbox hg
        obtain ⟨Ao46, co46, eo46⟩ := Kd.R_slice HO392.out
        (first | subst eo46 | (injection eo46 with f1_ f2_ f3_; have f4_ := f1_.symm; have f5_ := f3_.symm; clear f1_ f2_ f3_; subst f4_; subst f5_))
        refine hK.out _ _ ⟨bk BK377 0, bk BK377 1, bk BK377 2, bk BK377 3⟩ (fun hHeld => ?_)
        clear hK K
        refine no 11 ?_
        refine on 4 (some 50) (lm 11 287) HT_ (fun K hK => ?_)
        refine goes_ Try.func8 (by kernel_rfl) rfl #[.pointer none, .agg #[.int .i64 t387, .int .i64 t388, .int .i64 t389, .slice Ao46 t390.length co46], .agg #[.int .i64 t371, .int .i64 t372, .int .i64 t373, .slice Ao16 t374.length co16]] (by rfl) rfl rfl ga ?_
        with_reducible refine (mul_Gemm_nil.calls kj10  t387 t388 t389 _ _ t390 t371 t372 t373 _ _ t374 t393 t394 t395 t396 t399 _ ?side1 ?side2 ?side3 ?side4 A35.out).mono ?_
        (case side1 => exact ks HO392)
        (case side2 => exact (Kd.R_reads' HO392.out).2.1)
        (case side3 => exact ks HO_378003)
        (case side4 => exact (Kd.R_reads' HO_378003.out).2.1)
        rintro e w47 ⟨v397, rfl, ho0, hb⟩
        refine ⟨_, rfl, ?_⟩
        refine ax8 (Kd.R_elder' (kr HO_378003) (Kd.R_base ho0) hb) (Kd.R_elder' (kr HO_385003) (Kd.R_base ho0) hb) (Kd.R_elder' (kr HO392) (Kd.R_base ho0) hb) (Kd.R_lower (Kd.R_new' (Kd.R_new' (Kd.R_new' ho0 (Kd.R_lt (kr HO_378003))) (Kd.R_lt (kr HO_385003))) (Kd.R_lt (kr HO392))) (below_size bes)) (bb BK377 hb) (bb BK384 hb) (bb BK400 hb) (below_step bes hb) ?_
        clear HO_378003 HO_385003 HO392 BK377 BK384 BK400 HB
        intro HO_378003 HO_385003 HO392 HO398 BK377 BK384 BK400 HB
        (try clear hb)
        (try clear hb2)
        (try clear hk)
        (try clear hi)
        (try clear ho0)
        refine hK.out _ _ ⟨bk BK377 0, bk BK377 1, bk BK377 2, bk BK377 3⟩ (fun hHeld => ?_)
        clear hK K
        refine no 50 ?_
        refine pu 5 45 (lm 11 319) HT_ ?_
        refine pu 6 51 (lm 11 383) HT_ ?_
        refine pu 7 52 (lm 11 511) HT_ ?_
        exact nP (hCont (.slice Ao46 t390.length co46, v397, gb400) _ ⟨hHeld, (km HO392 fun _ hk => ⟨hk.2, ⟨hk.1.1.2, hk.1.2⟩⟩), (km HO398 fun _ hk => ⟨hk.2, ⟨hk.1.1.2, hk.1.2⟩⟩), (km HO_378003 fun _ hk => ⟨hk.1.2, ⟨hk.2, hk.1.1⟩⟩), (km HO_385003 fun _ hk => ⟨hk.1.2, ⟨hk.2, hk.1.1⟩⟩), (kb BK377), (kb BK384), (kb BK400), GW400.out, GE400.out, NB377_400.out, NB400_377.out, NB384_400.out, NB400_384.out, bes⟩)
      ·
       skip
       refine box_step ?hg (N := 11) ?hd (cs := #[.int .i64 0, .int .i64 0, .int .i64 0, .slice none 0 0]) (t := 25) ?hr ?_; (case hd => rfl); (case hg => rfl); (case hr => first | (go_simp; done) | (go_simp; rfl))
       intro gb400 hg w44 hbox hb
       refine ax12 (Kd.R_below (kr HO_378003) hb) (Kd.R_below (kr HO_385003) hb) (bb BK377 hb) (bb BK384 hb) (below_step bes hb) hbox ((ge hg : w.heap.size ≤ gb400)) ((ge hg : w.heap.size ≤ gb400)) (nl hg BK377) (ng hg BK377) (nl hg BK384) (ng hg BK384) ?_
       clear HO_378003 HO_385003 BK377 BK384 HB
       intro HO_378003 HO_385003 BK377 BK384 HB BK400 GW400 GE400 NB377_400 NB400_377 NB384_400 NB400_384
       clear hb hbox hg
       refine hK.out _ _ ⟨bk BK377 0, bk BK377 1, bk BK377 2, bk BK377 3⟩ (fun hHeld => ?_)
       clear hK K
       refine no 11 ?_
       refine on 2 (some 48) (lm 11 271) HT_ (fun K hK => ?_)
       refine goes_ Try.func9 (by kernel_rfl) rfl #[.int .i64 (Go.bits .and .i64 a0 7)] (by rfl) rfl rfl ga ?_
       with_reducible refine (mat_One.calls kj10 (Go.bits .and .i64 a0 7) t387 t388 t389 t390 _ A34.out).mono ?_
       rintro e w45 ⟨v391, rfl, ho0, hb⟩
       refine ⟨_, rfl, ?_⟩
       refine ax7 (Kd.R_elder' (kr HO_378003) (Kd.R_base ho0) hb) (Kd.R_elder' (kr HO_385003) (Kd.R_base ho0) hb) (Kd.R_lower (Kd.R_new' (Kd.R_new' ho0 (Kd.R_lt (kr HO_378003))) (Kd.R_lt (kr HO_385003))) (below_size bes)) (bb BK377 hb) (bb BK384 hb) (bb BK400 hb) (below_step bes hb) ?_
       clear HO_378003 HO_385003 BK377 BK384 BK400 HB
       intro HO_378003 HO_385003 HO392 BK377 BK384 BK400 HB
       (try clear hb)
       (try clear hb2)
       (try clear hk)
       (try clear hi)
       (try clear ho0)
       obtain ⟨Ao46, co46, eo46⟩ := Kd.R_slice HO392.out
       (first | subst eo46 | (injection eo46 with f1_ f2_ f3_; have f4_ := f1_.symm; have f5_ := f3_.symm; clear f1_ f2_ f3_; subst f4_; subst f5_))
       refine hK.out _ _ ⟨bk BK377 0, bk BK377 1, bk BK377 2, bk BK377 3⟩ (fun hHeld => ?_)
       clear hK K
       refine no 48 ?_
       refine on 4 (some 50) (lm 11 287) HT_ (fun K hK => ?_)
       refine goes_ Try.func8 (by kernel_rfl) rfl #[.pointer none, .agg #[.int .i64 t387, .int .i64 t388, .int .i64 t389, .slice Ao46 t390.length co46], .agg #[.int .i64 t371, .int .i64 t372, .int .i64 t373, .slice Ao16 t374.length co16]] (by rfl) rfl rfl ga ?_
       with_reducible refine (mul_Gemm_nil.calls kj10  t387 t388 t389 _ _ t390 t371 t372 t373 _ _ t374 t393 t394 t395 t396 t399 _ ?side1 ?side2 ?side3 ?side4 A35.out).mono ?_
       (case side1 => exact ks HO392)
       (case side2 => exact (Kd.R_reads' HO392.out).2.1)
       (case side3 => exact ks HO_378003)
       (case side4 => exact (Kd.R_reads' HO_378003.out).2.1)
       rintro e w47 ⟨v397, rfl, ho0, hb⟩
       refine ⟨_, rfl, ?_⟩
       refine ax8 (Kd.R_elder' (kr HO_378003) (Kd.R_base ho0) hb) (Kd.R_elder' (kr HO_385003) (Kd.R_base ho0) hb) (Kd.R_elder' (kr HO392) (Kd.R_base ho0) hb) (Kd.R_lower (Kd.R_new' (Kd.R_new' (Kd.R_new' ho0 (Kd.R_lt (kr HO_378003))) (Kd.R_lt (kr HO_385003))) (Kd.R_lt (kr HO392))) (below_size bes)) (bb BK377 hb) (bb BK384 hb) (bb BK400 hb) (below_step bes hb) ?_
       clear HO_378003 HO_385003 HO392 BK377 BK384 BK400 HB
       intro HO_378003 HO_385003 HO392 HO398 BK377 BK384 BK400 HB
       (try clear hb)
       (try clear hb2)
       (try clear hk)
       (try clear hi)
       (try clear ho0)
       refine hK.out _ _ ⟨bk BK377 0, bk BK377 1, bk BK377 2, bk BK377 3⟩ (fun hHeld => ?_)
       clear hK K
       refine no 50 ?_
       refine pu 5 45 (lm 11 319) HT_ ?_
       refine pu 6 51 (lm 11 383) HT_ ?_
       refine pu 7 52 (lm 11 511) HT_ ?_
       exact nP (hCont (.slice Ao46 t390.length co46, v397, gb400) _ ⟨hHeld, (km HO392 fun _ hk => ⟨hk.2, ⟨hk.1.1.2, hk.1.2⟩⟩), (km HO398 fun _ hk => ⟨hk.2, ⟨hk.1.1.2, hk.1.2⟩⟩), (km HO_378003 fun _ hk => ⟨hk.1.2, ⟨hk.2, hk.1.1⟩⟩), (km HO_385003 fun _ hk => ⟨hk.1.2, ⟨hk.2, hk.1.1⟩⟩), (kb BK377), (kb BK384), (kb BK400), GW400.out, GE400.out, NB377_400.out, NB400_377.out, NB384_400.out, NB400_384.out, bes⟩)
     rintro ⟨v391, v397, gb400⟩ w48 ⟨hS_, h0_, h1_, h2_, h3_, h4_, h5_, h6_, h7_, h8_, h9_, h10_, h11_, h12_, h13_⟩
     have n0_ : Aside0 (Kd.R (Kd.int .u64) 33 w48 w.heap.size (fun k_ => some k_ ≠ (v397 : Value).ownBlock ∧ some k_ ≠ (.slice Ao16 t374.length co16 : Value).ownBlock ∧ some k_ ≠ (.slice Ao21 t381.length co21 : Value).ownBlock) v391 t390) := ⟨h0_⟩
     have n1_ : Aside0 (Kd.R (Kd.int .u64) 33 w48 w.heap.size (fun k_ => some k_ ≠ (v391 : Value).ownBlock ∧ some k_ ≠ (.slice Ao16 t374.length co16 : Value).ownBlock ∧ some k_ ≠ (.slice Ao21 t381.length co21 : Value).ownBlock) v397 t396) := ⟨h1_⟩
     have n2_ : Aside0 (Kd.R (Kd.int .u64) 33 w48 w.heap.size (fun k_ => some k_ ≠ (v391 : Value).ownBlock ∧ some k_ ≠ (v397 : Value).ownBlock ∧ some k_ ≠ (.slice Ao21 t381.length co21 : Value).ownBlock) (.slice Ao16 t374.length co16) t374) := ⟨h2_⟩
     have n3_ : Aside0 (Kd.R (Kd.int .u64) 33 w48 w.heap.size (fun k_ => some k_ ≠ (v391 : Value).ownBlock ∧ some k_ ≠ (v397 : Value).ownBlock ∧ some k_ ≠ (.slice Ao16 t374.length co16 : Value).ownBlock) (.slice Ao21 t381.length co21) t381) := ⟨h3_⟩
     have n4_ : Aside0 (w48.heap[gb377]? = some (.cells #[.int .i64 t371, .int .i64 t372, .int .i64 t373, .slice Ao16 t374.length co16] 25 (0, 0))) := ⟨h4_⟩
     have n5_ : Aside0 (w48.heap[gb384]? = some (.cells #[.int .i64 t378, .int .i64 t379, .int .i64 t380, .slice Ao21 t381.length co21] 25 (0, 0))) := ⟨h5_⟩
     have n6_ : Aside0 (w48.heap[gb400]? = some (.cells #[.int .i64 0, .int .i64 0, .int .i64 0, .slice none 0 0] 25 (0, 0))) := ⟨h6_⟩
     have n7_ : Aside0 (w.heap.size ≤ gb400) := ⟨h7_⟩
     have n8_ : Aside0 (w.heap.size ≤ gb400) := ⟨h8_⟩
     have n9_ : Aside0 (gb377 ≠ gb400) := ⟨h9_⟩
     have n10_ : Aside0 (gb400 ≠ gb377) := ⟨h10_⟩
     have n11_ : Aside0 (gb384 ≠ gb400) := ⟨h11_⟩
     have n12_ : Aside0 (gb400 ≠ gb384) := ⟨h12_⟩
     have n13_ : Aside0 (Below w.heap.size w w48) := ⟨h13_⟩
     clear HO_378003 HO_385003 BK377 BK384 HB h0_ h1_ h2_ h3_ h4_ h5_ h6_ h7_ h8_ h9_ h10_ h11_ h12_ h13_
     have HO392 := n0_
     have HO398 := n1_
     have HO_378003 := n2_
     have HO_385003 := n3_
     have BK377 := n4_
     have BK384 := n5_
     have BK400 := n6_
     have GW400 := n7_
     have GE400 := n8_
     have NB377_400 := n9_
     have NB400_377 := n10_
     have NB384_400 := n11_
     have NB400_384 := n12_
     have HB := n13_
     clear n0_ n1_ n2_ n3_ n4_ n5_ n6_ n7_ n8_ n9_ n10_ n11_ n12_ n13_
     have hHeld : w48.cell? ⟨gb377, 0, none⟩ = some (.int .i64 t371) ∧ w48.cell? ⟨gb377, 1, none⟩ = some (.int .i64 t372) ∧ w48.cell? ⟨gb377, 2, none⟩ = some (.int .i64 t373) ∧ w48.cell? ⟨gb377, 3, none⟩ = some (.slice Ao16 t374.length co16) := hS_
     obtain ⟨Ao52, co52, eo52⟩ := Kd.R_slice HO398.out
     (first | subst eo52 | (injection eo52 with f1_ f2_ f3_; have f4_ := f1_.symm; have f5_ := f3_.symm; clear f1_ f2_ f3_; subst f4_; subst f5_))
     refine norm_ (a' := ?_) ?_ ?_
     rotate_left
     ·
      simp only [putAll, Act.put, List.setIfInBounds_toArray, List.set_cons_zero, List.set_cons_succ]
      rfl
     refine on 9 none (lm 11 1023) HT_ (fun K hK => ?_)
     have hs49 : w48.cell? ⟨gb400, 0, none⟩ = some (.int .i64 0) := bk BK400 0
     have hfs49 := blk_frozen BK400.out 0
     have hns49_0 := NB377_400.out
     have hns49_1 := NB384_400.out
     have hms49_0 := NB400_377.out
     have hms49_1 := NB400_384.out
     have hs50 : w48.cell? ⟨gb400, 1, none⟩ = some (.int .i64 0) := bk BK400 1
     have hfs50 := blk_frozen BK400.out 1
     have hns50_0 := NB377_400.out
     have hns50_1 := NB384_400.out
     have hms50_0 := NB400_377.out
     have hms50_1 := NB400_384.out
     have hs51 : w48.cell? ⟨gb400, 2, none⟩ = some (.int .i64 0) := bk BK400 2
     have hfs51 := blk_frozen BK400.out 2
     have hns51_0 := NB377_400.out
     have hns51_1 := NB384_400.out
     have hms51_0 := NB400_377.out
     have hms51_1 := NB400_384.out
     have hs53 : w48.cell? ⟨gb400, 3, none⟩ = some (.slice none 0 0) := bk BK400 3
     have hfs53 := blk_frozen BK400.out 3
     have hns53_0 := NB377_400.out
     have hns53_1 := NB384_400.out
     have hms53_0 := NB400_377.out
     have hms53_1 := NB400_384.out
     refine skip_ (w1 := ?_) (by rfl) rfl ?_ ?_
     rotate_left
     ·
      go_simp
      rfl
     refine hK.out _ _ ⟨((cell_far (p := ⟨gb400, _, none⟩) NB377_400.out _).trans (((cell_far (p := ⟨gb400, _, none⟩) NB377_400.out _).trans (((cell_far (p := ⟨gb400, _, none⟩) NB377_400.out _).trans (((cell_far (p := ⟨gb400, _, none⟩) NB377_400.out _).trans (hHeld.1)))))))), ((cell_far (p := ⟨gb400, _, none⟩) NB377_400.out _).trans (((cell_far (p := ⟨gb400, _, none⟩) NB377_400.out _).trans (((cell_far (p := ⟨gb400, _, none⟩) NB377_400.out _).trans (((cell_far (p := ⟨gb400, _, none⟩) NB377_400.out _).trans (hHeld.2.1)))))))), ((cell_far (p := ⟨gb400, _, none⟩) NB377_400.out _).trans (((cell_far (p := ⟨gb400, _, none⟩) NB377_400.out _).trans (((cell_far (p := ⟨gb400, _, none⟩) NB377_400.out _).trans (((cell_far (p := ⟨gb400, _, none⟩) NB377_400.out _).trans (hHeld.2.2.1)))))))), ((cell_far (p := ⟨gb400, _, none⟩) NB377_400.out _).trans (((cell_far (p := ⟨gb400, _, none⟩) NB377_400.out _).trans (((cell_far (p := ⟨gb400, _, none⟩) NB377_400.out _).trans (((cell_far (p := ⟨gb400, _, none⟩) NB377_400.out _).trans (hHeld.2.2.2))))))))⟩ (fun hHeld => ?_)
     clear hK K
     refine pu 10 12 (lm 11 2047) HT_ ?_
     refine done_ (done_of HT_.out (by kernel_rfl)) ?_
     try go_wp2
     have n0_ : Aside0 (Kd.R (Kd.int .u64) 33 ((((w48.setCell ⟨gb400, 0, none⟩ (.int .i64 t393)).setCell ⟨gb400, 1, none⟩ (.int .i64 t394)).setCell ⟨gb400, 2, none⟩ (.int .i64 t395)).setCell ⟨gb400, 3, none⟩ (.slice Ao52 t396.length co52)) w.heap.size (fun k_ => some k_ ≠ (.slice Ao21 t381.length co21 : Value).ownBlock ∧ some k_ ≠ (v391 : Value).ownBlock ∧ some k_ ≠ (.slice Ao52 t396.length co52 : Value).ownBlock) (.slice Ao16 t374.length co16) t374) := ⟨by (with_reducible repeat (first | apply Kd.R_alloc | apply Kd.R_drewN | apply Kd.R_drew)); exact Kd.R_mono (Kd.R_far (p := ⟨gb400, 3, none⟩) (Kd.R_far (p := ⟨gb400, 2, none⟩) (Kd.R_far (p := ⟨gb400, 1, none⟩) (Kd.R_far (p := ⟨gb400, 0, none⟩) (Kd.R_types HO_378003.out BK400.out (by decide)) (fun _ hk => hk.2) (.int .i64 t393)) (fun _ hk => hk.2) (.int .i64 t394)) (fun _ hk => hk.2) (.int .i64 t395)) (fun _ hk => hk.2) (.slice Ao52 t396.length co52)) (fun _ hk => ⟨hk.1.2.2, ⟨hk.1.1, hk.1.2.1⟩⟩)⟩
     have n1_ : Aside0 (Kd.R (Kd.int .u64) 33 ((((w48.setCell ⟨gb400, 0, none⟩ (.int .i64 t393)).setCell ⟨gb400, 1, none⟩ (.int .i64 t394)).setCell ⟨gb400, 2, none⟩ (.int .i64 t395)).setCell ⟨gb400, 3, none⟩ (.slice Ao52 t396.length co52)) w.heap.size (fun k_ => some k_ ≠ (.slice Ao16 t374.length co16 : Value).ownBlock ∧ some k_ ≠ (v391 : Value).ownBlock ∧ some k_ ≠ (.slice Ao52 t396.length co52 : Value).ownBlock) (.slice Ao21 t381.length co21) t381) := ⟨by (with_reducible repeat (first | apply Kd.R_alloc | apply Kd.R_drewN | apply Kd.R_drew)); exact Kd.R_mono (Kd.R_far (p := ⟨gb400, 3, none⟩) (Kd.R_far (p := ⟨gb400, 2, none⟩) (Kd.R_far (p := ⟨gb400, 1, none⟩) (Kd.R_far (p := ⟨gb400, 0, none⟩) (Kd.R_types HO_385003.out BK400.out (by decide)) (fun _ hk => hk.2) (.int .i64 t393)) (fun _ hk => hk.2) (.int .i64 t394)) (fun _ hk => hk.2) (.int .i64 t395)) (fun _ hk => hk.2) (.slice Ao52 t396.length co52)) (fun _ hk => ⟨hk.1.2.2, ⟨hk.1.1, hk.1.2.1⟩⟩)⟩
     have n2_ : Aside0 (Kd.R (Kd.int .u64) 33 ((((w48.setCell ⟨gb400, 0, none⟩ (.int .i64 t393)).setCell ⟨gb400, 1, none⟩ (.int .i64 t394)).setCell ⟨gb400, 2, none⟩ (.int .i64 t395)).setCell ⟨gb400, 3, none⟩ (.slice Ao52 t396.length co52)) w.heap.size (fun k_ => some k_ ≠ (.slice Ao16 t374.length co16 : Value).ownBlock ∧ some k_ ≠ (.slice Ao21 t381.length co21 : Value).ownBlock ∧ some k_ ≠ (.slice Ao52 t396.length co52 : Value).ownBlock) v391 t390) := ⟨by (with_reducible repeat (first | apply Kd.R_alloc | apply Kd.R_drewN | apply Kd.R_drew)); exact Kd.R_mono (Kd.R_far (p := ⟨gb400, 3, none⟩) (Kd.R_far (p := ⟨gb400, 2, none⟩) (Kd.R_far (p := ⟨gb400, 1, none⟩) (Kd.R_far (p := ⟨gb400, 0, none⟩) (Kd.R_types HO392.out BK400.out (by decide)) (fun _ hk => hk.2) (.int .i64 t393)) (fun _ hk => hk.2) (.int .i64 t394)) (fun _ hk => hk.2) (.int .i64 t395)) (fun _ hk => hk.2) (.slice Ao52 t396.length co52)) (fun _ hk => ⟨hk.1.2.1, ⟨hk.1.2.2, hk.1.1⟩⟩)⟩
     have n3_ : Aside0 (Kd.R (Kd.int .u64) 33 ((((w48.setCell ⟨gb400, 0, none⟩ (.int .i64 t393)).setCell ⟨gb400, 1, none⟩ (.int .i64 t394)).setCell ⟨gb400, 2, none⟩ (.int .i64 t395)).setCell ⟨gb400, 3, none⟩ (.slice Ao52 t396.length co52)) w.heap.size (fun k_ => some k_ ≠ (.slice Ao16 t374.length co16 : Value).ownBlock ∧ some k_ ≠ (.slice Ao21 t381.length co21 : Value).ownBlock ∧ some k_ ≠ (v391 : Value).ownBlock) (.slice Ao52 t396.length co52) t396) := ⟨by (with_reducible repeat (first | apply Kd.R_alloc | apply Kd.R_drewN | apply Kd.R_drew)); exact Kd.R_mono (Kd.R_far (p := ⟨gb400, 3, none⟩) (Kd.R_far (p := ⟨gb400, 2, none⟩) (Kd.R_far (p := ⟨gb400, 1, none⟩) (Kd.R_far (p := ⟨gb400, 0, none⟩) (Kd.R_types HO398.out BK400.out (by decide)) (fun _ hk => hk.2) (.int .i64 t393)) (fun _ hk => hk.2) (.int .i64 t394)) (fun _ hk => hk.2) (.int .i64 t395)) (fun _ hk => hk.2) (.slice Ao52 t396.length co52)) (fun _ hk => ⟨hk.1.2.1, ⟨hk.1.2.2, hk.1.1⟩⟩)⟩
     have n4_ : Aside0 (((((w48.setCell ⟨gb400, 0, none⟩ (.int .i64 t393)).setCell ⟨gb400, 1, none⟩ (.int .i64 t394)).setCell ⟨gb400, 2, none⟩ (.int .i64 t395)).setCell ⟨gb400, 3, none⟩ (.slice Ao52 t396.length co52)).heap[gb377]? = some (.cells #[.int .i64 t371, .int .i64 t372, .int .i64 t373, .slice Ao16 t374.length co16] 25 (0, 0))) := ⟨bf BK377 NB377_400⟩
     have n5_ : Aside0 (((((w48.setCell ⟨gb400, 0, none⟩ (.int .i64 t393)).setCell ⟨gb400, 1, none⟩ (.int .i64 t394)).setCell ⟨gb400, 2, none⟩ (.int .i64 t395)).setCell ⟨gb400, 3, none⟩ (.slice Ao52 t396.length co52)).heap[gb384]? = some (.cells #[.int .i64 t378, .int .i64 t379, .int .i64 t380, .slice Ao21 t381.length co21] 25 (0, 0))) := ⟨bf BK384 NB384_400⟩
     have n6_ : Aside0 (((((w48.setCell ⟨gb400, 0, none⟩ (.int .i64 t393)).setCell ⟨gb400, 1, none⟩ (.int .i64 t394)).setCell ⟨gb400, 2, none⟩ (.int .i64 t395)).setCell ⟨gb400, 3, none⟩ (.slice Ao52 t396.length co52)).heap[gb400]? = some (.cells #[.int .i64 t393, .int .i64 t394, .int .i64 t395, .slice Ao52 t396.length co52] 25 (0, 0))) := ⟨bp BK400⟩
     have n7_ : Aside0 (Below w.heap.size w ((((w48.setCell ⟨gb400, 0, none⟩ (.int .i64 t393)).setCell ⟨gb400, 1, none⟩ (.int .i64 t394)).setCell ⟨gb400, 2, none⟩ (.int .i64 t395)).setCell ⟨gb400, 3, none⟩ (.slice Ao52 t396.length co52))) := ⟨bes⟩
     (try clear HO_378003)
     (try clear HO_385003)
     (try clear HO392)
     (try clear HO398)
     (try clear BK377)
     (try clear BK384)
     (try clear BK400)
     (try clear HB)
     generalize ((((w48.setCell ⟨gb400, 0, none⟩ (.int .i64 t393)).setCell ⟨gb400, 1, none⟩ (.int .i64 t394)).setCell ⟨gb400, 2, none⟩ (.int .i64 t395)).setCell ⟨gb400, 3, none⟩ (.slice Ao52 t396.length co52)) = w54 at n0_ n1_ n2_ n3_ n4_ n5_ n6_ n7_ ⊢
     have HO_378003 := n0_
     have HO_385003 := n1_
     have HO392 := n2_
     have HO398 := n3_
     have BK377 := n4_
     have BK384 := n5_
     have BK400 := n6_
     have HB := n7_
     clear n0_ n1_ n2_ n3_ n4_ n5_ n6_ n7_
     refine ax8 (Kd.R_drew HO_378003.out) (Kd.R_drew HO_385003.out) (Kd.R_drew HO392.out) (Kd.R_drew HO398.out) (blk_drew BK377.out) (blk_drew BK384.out) (blk_drew BK400.out) (below_drew1 HB.out) ?_
     clear HO_378003 HO_385003 HO392 HO398 BK377 BK384 BK400 HB
     intro HO_378003 HO_385003 HO392 HO398 BK377 BK384 BK400 HB
     refine start_ (n := 11) (S := fun w' => w'.cell? ⟨gb377, 0, none⟩ = some (.int .i64 t371) ∧ w'.cell? ⟨gb377, 1, none⟩ = some (.int .i64 t372) ∧ w'.cell? ⟨gb377, 2, none⟩ = some (.int .i64 t373) ∧ w'.cell? ⟨gb377, 3, none⟩ = some (.slice Ao16 t374.length co16)) (ds := []) #[false, false, false, false, false, false, false, false, false, false, false] (by kernel_rfl) rfl rfl ⟨bk BK377 0, bk BK377 1, bk BK377 2, bk BK377 3⟩ (fun hHeld => ?_); refine with_tabW gimballaw11_MulOnes.tab10 gimballaw11_MulOnes.bits10 (fun HT_ HW_ => ?_)
     generalize w54.drew = w55 at HO_378003 HO_385003 HO392 HO398 BK377 BK384 BK400 HB hHeld ⊢
     refine pu 1 55 (lm 11 2) HT_ ?_
     refine pu 2 56 (lm 11 6) HT_ ?_
     refine ta 0 54 (lm 11 7) HT_ HW_ hHeld ?_
     refine join_ (σ := Value × Value × Nat) 2 #[true, true, true, true, true, true, true, true, true, false, false] (fun s_ => [(57, .agg #[.int .i64 t401, .int .i64 t402, .int .i64 t403, s_.1]), (58, .tuple #[.agg #[.int .i64 t407, .int .i64 t408, .int .i64 t409, s_.2.1], .int .i64 t413]), (13, .pointer (some ⟨s_.2.2, 0, none⟩)), (53, .tuple #[.agg #[.int .i64 t407, .int .i64 t408, .int .i64 t409, s_.2.1], .int .i64 t413]), (59, .agg #[.int .i64 t407, .int .i64 t408, .int .i64 t409, s_.2.1]), (60, .int .i64 t413)]) (fun s_ w' => (w'.cell? ⟨gb377, 0, none⟩ = some (.int .i64 t371) ∧ w'.cell? ⟨gb377, 1, none⟩ = some (.int .i64 t372) ∧ w'.cell? ⟨gb377, 2, none⟩ = some (.int .i64 t373) ∧ w'.cell? ⟨gb377, 3, none⟩ = some (.slice Ao16 t374.length co16)) ∧ (Kd.R (Kd.int .u64) 33 w' w.heap.size (fun k_ => some k_ ≠ (.slice Ao52 t396.length co52 : Value).ownBlock ∧ some k_ ≠ (s_.1 : Value).ownBlock ∧ some k_ ≠ (s_.2.1 : Value).ownBlock ∧ some k_ ≠ (.slice Ao16 t374.length co16 : Value).ownBlock ∧ some k_ ≠ (.slice Ao21 t381.length co21 : Value).ownBlock) v391 t390) ∧ (Kd.R (Kd.int .u64) 33 w' w.heap.size (fun k_ => some k_ ≠ (v391 : Value).ownBlock ∧ some k_ ≠ (s_.1 : Value).ownBlock ∧ some k_ ≠ (s_.2.1 : Value).ownBlock ∧ some k_ ≠ (.slice Ao16 t374.length co16 : Value).ownBlock ∧ some k_ ≠ (.slice Ao21 t381.length co21 : Value).ownBlock) (.slice Ao52 t396.length co52) t396) ∧ (Kd.R (Kd.int .u64) 33 w' w.heap.size (fun k_ => some k_ ≠ (v391 : Value).ownBlock ∧ some k_ ≠ (.slice Ao52 t396.length co52 : Value).ownBlock ∧ some k_ ≠ (s_.2.1 : Value).ownBlock ∧ some k_ ≠ (.slice Ao16 t374.length co16 : Value).ownBlock ∧ some k_ ≠ (.slice Ao21 t381.length co21 : Value).ownBlock) s_.1 t404) ∧ (Kd.R (Kd.int .u64) 33 w' w.heap.size (fun k_ => some k_ ≠ (v391 : Value).ownBlock ∧ some k_ ≠ (.slice Ao52 t396.length co52 : Value).ownBlock ∧ some k_ ≠ (s_.1 : Value).ownBlock ∧ some k_ ≠ (.slice Ao16 t374.length co16 : Value).ownBlock ∧ some k_ ≠ (.slice Ao21 t381.length co21 : Value).ownBlock) s_.2.1 t410) ∧ (Kd.R (Kd.int .u64) 33 w' w.heap.size (fun k_ => some k_ ≠ (v391 : Value).ownBlock ∧ some k_ ≠ (.slice Ao52 t396.length co52 : Value).ownBlock ∧ some k_ ≠ (s_.1 : Value).ownBlock ∧ some k_ ≠ (s_.2.1 : Value).ownBlock ∧ some k_ ≠ (.slice Ao21 t381.length co21 : Value).ownBlock) (.slice Ao16 t374.length co16) t374) ∧ (Kd.R (Kd.int .u64) 33 w' w.heap.size (fun k_ => some k_ ≠ (v391 : Value).ownBlock ∧ some k_ ≠ (.slice Ao52 t396.length co52 : Value).ownBlock ∧ some k_ ≠ (s_.1 : Value).ownBlock ∧ some k_ ≠ (s_.2.1 : Value).ownBlock ∧ some k_ ≠ (.slice Ao16 t374.length co16 : Value).ownBlock) (.slice Ao21 t381.length co21) t381) ∧ (w'.heap[gb377]? = some (.cells #[.int .i64 t371, .int .i64 t372, .int .i64 t373, .slice Ao16 t374.length co16] 25 (0, 0))) ∧ (w'.heap[gb384]? = some (.cells #[.int .i64 t378, .int .i64 t379, .int .i64 t380, .slice Ao21 t381.length co21] 25 (0, 0))) ∧ (w'.heap[gb400]? = some (.cells #[.int .i64 t393, .int .i64 t394, .int .i64 t395, .slice Ao52 t396.length co52] 25 (0, 0))) ∧ (w'.heap[s_.2.2]? = some (.cells #[.int .i64 0, .int .i64 0, .int .i64 0, .slice none 0 0] 25 (0, 0))) ∧ (w.heap.size ≤ s_.2.2) ∧ (w.heap.size ≤ s_.2.2) ∧ (gb377 ≠ s_.2.2) ∧ (s_.2.2 ≠ gb377) ∧ (gb384 ≠ s_.2.2) ∧ (s_.2.2 ≠ gb384) ∧ (gb400 ≠ s_.2.2) ∧ (s_.2.2 ≠ gb400) ∧ (Below w.heap.size w w')) ?_ ?_
     rotate_left
     ·
      intro hCont
      refine two_ (i := 3) (j := 8) (Ni := some 57) (Nj := some 13) #[true, true, true, true, false, false, false, false, false, false, false] #[true, true, true, false, false, false, false, false, true, false, false] rfl rfl rfl rfl (two_of HT_.out (by kernel_rfl)) (by decide) (by decide) (fun K hK => ?_) (fun K hK => ?_)
      ·
       skip
       refine goes_ Try.func9 (by kernel_rfl) rfl #[.int .i64 (Go.bits .and .i64 a1 7)] (by rfl) rfl rfl ga ?_
       with_reducible refine (mat_One.calls kj10 (Go.bits .and .i64 a1 7) t401 t402 t403 t404 _ A36.out).mono ?_
       rintro e w56 ⟨v405, rfl, ho0, hb⟩
       refine ⟨_, rfl, ?_⟩
       refine ax9 (Kd.R_elder' (kr HO_378003) (Kd.R_base ho0) hb) (Kd.R_elder' (kr HO_385003) (Kd.R_base ho0) hb) (Kd.R_elder' (kr HO392) (Kd.R_base ho0) hb) (Kd.R_elder' (kr HO398) (Kd.R_base ho0) hb) (Kd.R_lower (Kd.R_new' (Kd.R_new' (Kd.R_new' (Kd.R_new' ho0 (Kd.R_lt (kr HO_378003))) (Kd.R_lt (kr HO_385003))) (Kd.R_lt (kr HO392))) (Kd.R_lt (kr HO398))) (below_size bes)) (bb BK377 hb) (bb BK384 hb) (bb BK400 hb) (below_step bes hb) ?_
       clear HO_378003 HO_385003 HO392 HO398 BK377 BK384 BK400 HB
       intro HO_378003 HO_385003 HO392 HO398 HO406 BK377 BK384 BK400 HB
       (try clear hb)
       (try clear hb2)
       (try clear hk)
       (try clear hi)
       (try clear ho0)
       obtain ⟨Ao57, co57, eo57⟩ := Kd.R_slice HO406.out
       (first | subst eo57 | (injection eo57 with f1_ f2_ f3_; have f4_ := f1_.symm; have f5_ := f3_.symm; clear f1_ f2_ f3_; subst f4_; subst f5_))
       refine hK.out _ _ ⟨bk BK377 0, bk BK377 1, bk BK377 2, bk BK377 3⟩ (fun hHeld => ?_)
       clear hK K
       refine no 57 ?_
       refine two_ (i := 4) (j := 8) (Ni := some 58) (Nj := some 13) #[true, true, true, true, true, false, false, false, false, false, false] #[true, true, true, true, false, false, false, false, true, false, false] rfl rfl rfl rfl (two_of HT_.out (by kernel_rfl)) (by decide) (by decide) (fun K hK => ?_) (fun K hK => ?_)
       ·
        skip
        refine goes_ Try.func8 (by kernel_rfl) rfl #[.pointer none, .agg #[.int .i64 t371, .int .i64 t372, .int .i64 t373, .slice Ao16 t374.length co16], .agg #[.int .i64 t401, .int .i64 t402, .int .i64 t403, .slice Ao57 t404.length co57]] (by rfl) rfl rfl ga ?_
        with_reducible refine (mul_Gemm_nil.calls kj10  t371 t372 t373 _ _ t374 t401 t402 t403 _ _ t404 t407 t408 t409 t410 t413 _ ?side1 ?side2 ?side3 ?side4 A37.out).mono ?_
        (case side1 => exact ks HO_378003)
        (case side2 => exact (Kd.R_reads' HO_378003.out).2.1)
        (case side3 => exact ks HO406)
        (case side4 => exact (Kd.R_reads' HO406.out).2.1)
        rintro e w58 ⟨v411, rfl, ho0, hb⟩
        refine ⟨_, rfl, ?_⟩
        refine ax10 (Kd.R_elder' (kr HO_378003) (Kd.R_base ho0) hb) (Kd.R_elder' (kr HO_385003) (Kd.R_base ho0) hb) (Kd.R_elder' (kr HO392) (Kd.R_base ho0) hb) (Kd.R_elder' (kr HO398) (Kd.R_base ho0) hb) (Kd.R_elder' (kr HO406) (Kd.R_base ho0) hb) (Kd.R_lower (Kd.R_new' (Kd.R_new' (Kd.R_new' (Kd.R_new' (Kd.R_new' ho0 (Kd.R_lt (kr HO_378003))) (Kd.R_lt (kr HO_385003))) (Kd.R_lt (kr HO392))) (Kd.R_lt (kr HO398))) (Kd.R_lt (kr HO406))) (below_size bes)) (bb BK377 hb) (bb BK384 hb) (bb BK400 hb) (below_step bes hb) ?_
        clear HO_378003 HO_385003 HO392 HO398 HO406 BK377 BK384 BK400 HB
        intro HO_378003 HO_385003 HO392 HO398 HO406 HO412 BK377 BK384 BK400 HB
        (try clear hb)
        (try clear hb2)
        (try clear hk)
        (try clear hi)
        (try clear ho0)
        refine hK.out _ _ ⟨bk BK377 0, bk BK377 1, bk BK377 2, bk BK377 3⟩ (fun hHeld => ?_)
        clear hK K
        refine no 58 ?_
        refine pu 5 53 (lm 11 63) HT_ ?_
        refine pu 6 59 (lm 11 127) HT_ ?_
        refine pu 7 60 (lm 11 255) HT_ ?_
        refine on 8 (some 13) (lm 11 511) HT_ (fun K hK => ?_)
        refine box_step ?hg (N := 13) ?hd (cs := #[.int .i64 0, .int .i64 0, .int .i64 0, .slice none 0 0]) (t := 25) ?hr ?_; (case hd => rfl); (case hg => rfl); (case hr => first | (go_simp; done) | (go_simp; rfl))
        intro gb414 hg w59 hbox hb
        refine ax19 (Kd.R_below (kr HO_378003) hb) (Kd.R_below (kr HO_385003) hb) (Kd.R_below (kr HO392) hb) (Kd.R_below (kr HO398) hb) (Kd.R_below (kr HO406) hb) (Kd.R_below (kr HO412) hb) (bb BK377 hb) (bb BK384 hb) (bb BK400 hb) (below_step bes hb) hbox ((ge hg : w.heap.size ≤ gb414)) ((ge hg : w.heap.size ≤ gb414)) (nl hg BK377) (ng hg BK377) (nl hg BK384) (ng hg BK384) (nl hg BK400) (ng hg BK400) ?_
        clear HO_378003 HO_385003 HO392 HO398 HO406 HO412 BK377 BK384 BK400 HB
        intro HO_378003 HO_385003 HO392 HO398 HO406 HO412 BK377 BK384 BK400 HB BK414 GW414 GE414 NB377_414 NB414_377 NB384_414 NB414_384 NB400_414 NB414_400
        clear hb hbox hg
        refine hK.out _ _ ⟨bk BK377 0, bk BK377 1, bk BK377 2, bk BK377 3⟩ (fun hHeld => ?_)
        clear hK K
        refine no 13 ?_
        exact nP (hCont (.slice Ao57 t404.length co57, v411, gb414) _ ⟨hHeld, (km HO392 fun _ hk => ⟨hk.1.1.2.2, ⟨hk.1.2, ⟨hk.2, ⟨hk.1.1.1, hk.1.1.2.1⟩⟩⟩⟩), (km HO398 fun _ hk => ⟨hk.1.1.2.2, ⟨hk.1.2, ⟨hk.2, ⟨hk.1.1.1, hk.1.1.2.1⟩⟩⟩⟩), (km HO406 fun _ hk => ⟨hk.1.1.2, ⟨hk.1.2, ⟨hk.2, ⟨hk.1.1.1.1.2, hk.1.1.1.2⟩⟩⟩⟩), (km HO412 fun _ hk => ⟨hk.1.1.2, ⟨hk.1.2, ⟨hk.2, ⟨hk.1.1.1.1.2, hk.1.1.1.2⟩⟩⟩⟩), (km HO_378003 fun _ hk => ⟨hk.1.1.2.1, ⟨hk.1.1.2.2, ⟨hk.1.2, ⟨hk.2, hk.1.1.1⟩⟩⟩⟩), (km HO_385003 fun _ hk => ⟨hk.1.1.2.1, ⟨hk.1.1.2.2, ⟨hk.1.2, ⟨hk.2, hk.1.1.1⟩⟩⟩⟩), (kb BK377), (kb BK384), (kb BK400), (kb BK414), GW414.out, GE414.out, NB377_414.out, NB414_377.out, NB384_414.out, NB414_384.out, NB400_414.out, NB414_400.out, bes⟩)
       ·
        skip
        refine box_step ?hg (N := 13) ?hd (cs := #[.int .i64 0, .int .i64 0, .int .i64 0, .slice none 0 0]) (t := 25) ?hr ?_; (case hd => rfl); (case hg => rfl); (case hr => first | (go_simp; done) | (go_simp; rfl))
        intro gb414 hg w57 hbox hb
        refine ax18 (Kd.R_below (kr HO_378003) hb) (Kd.R_below (kr HO_385003) hb) (Kd.R_below (kr HO392) hb) (Kd.R_below (kr HO398) hb) (Kd.R_below (kr HO406) hb) (bb BK377 hb) (bb BK384 hb) (bb BK400 hb) (below_step bes hb) hbox ((ge hg : w.heap.size ≤ gb414)) ((ge hg : w.heap.size ≤ gb414)) (nl hg BK377) (ng hg BK377) (nl hg BK384) (ng hg BK384) (nl hg BK400) (ng hg BK400) ?_
        clear HO_378003 HO_385003 HO392 HO398 HO406 BK377 BK384 BK400 HB
        intro HO_378003 HO_385003 HO392 HO398 HO406 BK377 BK384 BK400 HB BK414 GW414 GE414 NB377_414 NB414_377 NB384_414 NB414_384 NB400_414 NB414_400
        clear hb hbox hg
        obtain ⟨Ao58, co58, eo58⟩ := Kd.R_slice HO406.out
        (first | subst eo58 | (injection eo58 with f1_ f2_ f3_; have f4_ := f1_.symm; have f5_ := f3_.symm; clear f1_ f2_ f3_; subst f4_; subst f5_))
        refine hK.out _ _ ⟨bk BK377 0, bk BK377 1, bk BK377 2, bk BK377 3⟩ (fun hHeld => ?_)
        clear hK K
        refine no 13 ?_
        refine on 4 (some 58) (lm 11 287) HT_ (fun K hK => ?_)
        refine goes_ Try.func8 (by kernel_rfl) rfl #[.pointer none, .agg #[.int .i64 t371, .int .i64 t372, .int .i64 t373, .slice Ao16 t374.length co16], .agg #[.int .i64 t401, .int .i64 t402, .int .i64 t403, .slice Ao58 t404.length co58]] (by rfl) rfl rfl ga ?_
        with_reducible refine (mul_Gemm_nil.calls kj10  t371 t372 t373 _ _ t374 t401 t402 t403 _ _ t404 t407 t408 t409 t410 t413 _ ?side1 ?side2 ?side3 ?side4 A37.out).mono ?_
        (case side1 => exact ks HO_378003)
        (case side2 => exact (Kd.R_reads' HO_378003.out).2.1)
        (case side3 => exact ks HO406)
        (case side4 => exact (Kd.R_reads' HO406.out).2.1)
        rintro e w59 ⟨v411, rfl, ho0, hb⟩
        refine ⟨_, rfl, ?_⟩
        refine ax11 (Kd.R_elder' (kr HO_378003) (Kd.R_base ho0) hb) (Kd.R_elder' (kr HO_385003) (Kd.R_base ho0) hb) (Kd.R_elder' (kr HO392) (Kd.R_base ho0) hb) (Kd.R_elder' (kr HO398) (Kd.R_base ho0) hb) (Kd.R_elder' (kr HO406) (Kd.R_base ho0) hb) (Kd.R_lower (Kd.R_new' (Kd.R_new' (Kd.R_new' (Kd.R_new' (Kd.R_new' ho0 (Kd.R_lt (kr HO_378003))) (Kd.R_lt (kr HO_385003))) (Kd.R_lt (kr HO392))) (Kd.R_lt (kr HO398))) (Kd.R_lt (kr HO406))) (below_size bes)) (bb BK377 hb) (bb BK384 hb) (bb BK400 hb) (bb BK414 hb) (below_step bes hb) ?_
        clear HO_378003 HO_385003 HO392 HO398 HO406 BK377 BK384 BK400 BK414 HB
        intro HO_378003 HO_385003 HO392 HO398 HO406 HO412 BK377 BK384 BK400 BK414 HB
        (try clear hb)
        (try clear hb2)
        (try clear hk)
        (try clear hi)
        (try clear ho0)
        refine hK.out _ _ ⟨bk BK377 0, bk BK377 1, bk BK377 2, bk BK377 3⟩ (fun hHeld => ?_)
        clear hK K
        refine no 58 ?_
        refine pu 5 53 (lm 11 319) HT_ ?_
        refine pu 6 59 (lm 11 383) HT_ ?_
        refine pu 7 60 (lm 11 511) HT_ ?_
        exact nP (hCont (.slice Ao58 t404.length co58, v411, gb414) _ ⟨hHeld, (km HO392 fun _ hk => ⟨hk.1.1.2.2, ⟨hk.1.2, ⟨hk.2, ⟨hk.1.1.1, hk.1.1.2.1⟩⟩⟩⟩), (km HO398 fun _ hk => ⟨hk.1.1.2.2, ⟨hk.1.2, ⟨hk.2, ⟨hk.1.1.1, hk.1.1.2.1⟩⟩⟩⟩), (km HO406 fun _ hk => ⟨hk.1.1.2, ⟨hk.1.2, ⟨hk.2, ⟨hk.1.1.1.1.2, hk.1.1.1.2⟩⟩⟩⟩), (km HO412 fun _ hk => ⟨hk.1.1.2, ⟨hk.1.2, ⟨hk.2, ⟨hk.1.1.1.1.2, hk.1.1.1.2⟩⟩⟩⟩), (km HO_378003 fun _ hk => ⟨hk.1.1.2.1, ⟨hk.1.1.2.2, ⟨hk.1.2, ⟨hk.2, hk.1.1.1⟩⟩⟩⟩), (km HO_385003 fun _ hk => ⟨hk.1.1.2.1, ⟨hk.1.1.2.2, ⟨hk.1.2, ⟨hk.2, hk.1.1.1⟩⟩⟩⟩), (kb BK377), (kb BK384), (kb BK400), (kb BK414), GW414.out, GE414.out, NB377_414.out, NB414_377.out, NB384_414.out, NB414_384.out, NB400_414.out, NB414_400.out, bes⟩)
      ·
       skip
       refine box_step ?hg (N := 13) ?hd (cs := #[.int .i64 0, .int .i64 0, .int .i64 0, .slice none 0 0]) (t := 25) ?hr ?_; (case hd => rfl); (case hg => rfl); (case hr => first | (go_simp; done) | (go_simp; rfl))
       intro gb414 hg w56 hbox hb
       refine ax17 (Kd.R_below (kr HO_378003) hb) (Kd.R_below (kr HO_385003) hb) (Kd.R_below (kr HO392) hb) (Kd.R_below (kr HO398) hb) (bb BK377 hb) (bb BK384 hb) (bb BK400 hb) (below_step bes hb) hbox ((ge hg : w.heap.size ≤ gb414)) ((ge hg : w.heap.size ≤ gb414)) (nl hg BK377) (ng hg BK377) (nl hg BK384) (ng hg BK384) (nl hg BK400) (ng hg BK400) ?_
       clear HO_378003 HO_385003 HO392 HO398 BK377 BK384 BK400 HB
       intro HO_378003 HO_385003 HO392 HO398 BK377 BK384 BK400 HB BK414 GW414 GE414 NB377_414 NB414_377 NB384_414 NB414_384 NB400_414 NB414_400
       clear hb hbox hg
       refine hK.out _ _ ⟨bk BK377 0, bk BK377 1, bk BK377 2, bk BK377 3⟩ (fun hHeld => ?_)
       clear hK K
       refine no 13 ?_
       refine on 3 (some 57) (lm 11 271) HT_ (fun K hK => ?_)
       refine goes_ Try.func9 (by kernel_rfl) rfl #[.int .i64 (Go.bits .and .i64 a1 7)] (by rfl) rfl rfl ga ?_
       with_reducible refine (mat_One.calls kj10 (Go.bits .and .i64 a1 7) t401 t402 t403 t404 _ A36.out).mono ?_
       rintro e w57 ⟨v405, rfl, ho0, hb⟩
       refine ⟨_, rfl, ?_⟩
       refine ax10 (Kd.R_elder' (kr HO_378003) (Kd.R_base ho0) hb) (Kd.R_elder' (kr HO_385003) (Kd.R_base ho0) hb) (Kd.R_elder' (kr HO392) (Kd.R_base ho0) hb) (Kd.R_elder' (kr HO398) (Kd.R_base ho0) hb) (Kd.R_lower (Kd.R_new' (Kd.R_new' (Kd.R_new' (Kd.R_new' ho0 (Kd.R_lt (kr HO_378003))) (Kd.R_lt (kr HO_385003))) (Kd.R_lt (kr HO392))) (Kd.R_lt (kr HO398))) (below_size bes)) (bb BK377 hb) (bb BK384 hb) (bb BK400 hb) (bb BK414 hb) (below_step bes hb) ?_
       clear HO_378003 HO_385003 HO392 HO398 BK377 BK384 BK400 BK414 HB
       intro HO_378003 HO_385003 HO392 HO398 HO406 BK377 BK384 BK400 BK414 HB
       (try clear hb)
       (try clear hb2)
       (try clear hk)
       (try clear hi)
       (try clear ho0)
       obtain ⟨Ao58, co58, eo58⟩ := Kd.R_slice HO406.out
       (first | subst eo58 | (injection eo58 with f1_ f2_ f3_; have f4_ := f1_.symm; have f5_ := f3_.symm; clear f1_ f2_ f3_; subst f4_; subst f5_))
       refine hK.out _ _ ⟨bk BK377 0, bk BK377 1, bk BK377 2, bk BK377 3⟩ (fun hHeld => ?_)
       clear hK K
       refine no 57 ?_
       refine on 4 (some 58) (lm 11 287) HT_ (fun K hK => ?_)
       refine goes_ Try.func8 (by kernel_rfl) rfl #[.pointer none, .agg #[.int .i64 t371, .int .i64 t372, .int .i64 t373, .slice Ao16 t374.length co16], .agg #[.int .i64 t401, .int .i64 t402, .int .i64 t403, .slice Ao58 t404.length co58]] (by rfl) rfl rfl ga ?_
       with_reducible refine (mul_Gemm_nil.calls kj10  t371 t372 t373 _ _ t374 t401 t402 t403 _ _ t404 t407 t408 t409 t410 t413 _ ?side1 ?side2 ?side3 ?side4 A37.out).mono ?_
       (case side1 => exact ks HO_378003)
       (case side2 => exact (Kd.R_reads' HO_378003.out).2.1)
       (case side3 => exact ks HO406)
       (case side4 => exact (Kd.R_reads' HO406.out).2.1)
       rintro e w59 ⟨v411, rfl, ho0, hb⟩
       refine ⟨_, rfl, ?_⟩
       refine ax11 (Kd.R_elder' (kr HO_378003) (Kd.R_base ho0) hb) (Kd.R_elder' (kr HO_385003) (Kd.R_base ho0) hb) (Kd.R_elder' (kr HO392) (Kd.R_base ho0) hb) (Kd.R_elder' (kr HO398) (Kd.R_base ho0) hb) (Kd.R_elder' (kr HO406) (Kd.R_base ho0) hb) (Kd.R_lower (Kd.R_new' (Kd.R_new' (Kd.R_new' (Kd.R_new' (Kd.R_new' ho0 (Kd.R_lt (kr HO_378003))) (Kd.R_lt (kr HO_385003))) (Kd.R_lt (kr HO392))) (Kd.R_lt (kr HO398))) (Kd.R_lt (kr HO406))) (below_size bes)) (bb BK377 hb) (bb BK384 hb) (bb BK400 hb) (bb BK414 hb) (below_step bes hb) ?_
       clear HO_378003 HO_385003 HO392 HO398 HO406 BK377 BK384 BK400 BK414 HB
       intro HO_378003 HO_385003 HO392 HO398 HO406 HO412 BK377 BK384 BK400 BK414 HB
       (try clear hb)
       (try clear hb2)
       (try clear hk)
       (try clear hi)
       (try clear ho0)
       refine hK.out _ _ ⟨bk BK377 0, bk BK377 1, bk BK377 2, bk BK377 3⟩ (fun hHeld => ?_)
       clear hK K
       refine no 58 ?_
       refine pu 5 53 (lm 11 319) HT_ ?_
       refine pu 6 59 (lm 11 383) HT_ ?_
       refine pu 7 60 (lm 11 511) HT_ ?_
       exact nP (hCont (.slice Ao58 t404.length co58, v411, gb414) _ ⟨hHeld, (km HO392 fun _ hk => ⟨hk.1.1.2.2, ⟨hk.1.2, ⟨hk.2, ⟨hk.1.1.1, hk.1.1.2.1⟩⟩⟩⟩), (km HO398 fun _ hk => ⟨hk.1.1.2.2, ⟨hk.1.2, ⟨hk.2, ⟨hk.1.1.1, hk.1.1.2.1⟩⟩⟩⟩), (km HO406 fun _ hk => ⟨hk.1.1.2, ⟨hk.1.2, ⟨hk.2, ⟨hk.1.1.1.1.2, hk.1.1.1.2⟩⟩⟩⟩), (km HO412 fun _ hk => ⟨hk.1.1.2, ⟨hk.1.2, ⟨hk.2, ⟨hk.1.1.1.1.2, hk.1.1.1.2⟩⟩⟩⟩), (km HO_378003 fun _ hk => ⟨hk.1.1.2.1, ⟨hk.1.1.2.2, ⟨hk.1.2, ⟨hk.2, hk.1.1.1⟩⟩⟩⟩), (km HO_385003 fun _ hk => ⟨hk.1.1.2.1, ⟨hk.1.1.2.2, ⟨hk.1.2, ⟨hk.2, hk.1.1.1⟩⟩⟩⟩), (kb BK377), (kb BK384), (kb BK400), (kb BK414), GW414.out, GE414.out, NB377_414.out, NB414_377.out, NB384_414.out, NB414_384.out, NB400_414.out, NB414_400.out, bes⟩)
     rintro ⟨v405, v411, gb414⟩ w60 ⟨hS_, h0_, h1_, h2_, h3_, h4_, h5_, h6_, h7_, h8_, h9_, h10_, h11_, h12_, h13_, h14_, h15_, h16_, h17_, h18_⟩
     have n0_ : Aside0 (Kd.R (Kd.int .u64) 33 w60 w.heap.size (fun k_ => some k_ ≠ (.slice Ao52 t396.length co52 : Value).ownBlock ∧ some k_ ≠ (v405 : Value).ownBlock ∧ some k_ ≠ (v411 : Value).ownBlock ∧ some k_ ≠ (.slice Ao16 t374.length co16 : Value).ownBlock ∧ some k_ ≠ (.slice Ao21 t381.length co21 : Value).ownBlock) v391 t390) := ⟨h0_⟩
     have n1_ : Aside0 (Kd.R (Kd.int .u64) 33 w60 w.heap.size (fun k_ => some k_ ≠ (v391 : Value).ownBlock ∧ some k_ ≠ (v405 : Value).ownBlock ∧ some k_ ≠ (v411 : Value).ownBlock ∧ some k_ ≠ (.slice Ao16 t374.length co16 : Value).ownBlock ∧ some k_ ≠ (.slice Ao21 t381.length co21 : Value).ownBlock) (.slice Ao52 t396.length co52) t396) := ⟨h1_⟩
     have n2_ : Aside0 (Kd.R (Kd.int .u64) 33 w60 w.heap.size (fun k_ => some k_ ≠ (v391 : Value).ownBlock ∧ some k_ ≠ (.slice Ao52 t396.length co52 : Value).ownBlock ∧ some k_ ≠ (v411 : Value).ownBlock ∧ some k_ ≠ (.slice Ao16 t374.length co16 : Value).ownBlock ∧ some k_ ≠ (.slice Ao21 t381.length co21 : Value).ownBlock) v405 t404) := ⟨h2_⟩
     have n3_ : Aside0 (Kd.R (Kd.int .u64) 33 w60 w.heap.size (fun k_ => some k_ ≠ (v391 : Value).ownBlock ∧ some k_ ≠ (.slice Ao52 t396.length co52 : Value).ownBlock ∧ some k_ ≠ (v405 : Value).ownBlock ∧ some k_ ≠ (.slice Ao16 t374.length co16 : Value).ownBlock ∧ some k_ ≠ (.slice Ao21 t381.length co21 : Value).ownBlock) v411 t410) := ⟨h3_⟩
     have n4_ : Aside0 (Kd.R (Kd.int .u64) 33 w60 w.heap.size (fun k_ => some k_ ≠ (v391 : Value).ownBlock ∧ some k_ ≠ (.slice Ao52 t396.length co52 : Value).ownBlock ∧ some k_ ≠ (v405 : Value).ownBlock ∧ some k_ ≠ (v411 : Value).ownBlock ∧ some k_ ≠ (.slice Ao21 t381.length co21 : Value).ownBlock) (.slice Ao16 t374.length co16) t374) := ⟨h4_⟩
     have n5_ : Aside0 (Kd.R (Kd.int .u64) 33 w60 w.heap.size (fun k_ => some k_ ≠ (v391 : Value).ownBlock ∧ some k_ ≠ (.slice Ao52 t396.length co52 : Value).ownBlock ∧ some k_ ≠ (v405 : Value).ownBlock ∧ some k_ ≠ (v411 : Value).ownBlock ∧ some k_ ≠ (.slice Ao16 t374.length co16 : Value).ownBlock) (.slice Ao21 t381.length co21) t381) := ⟨h5_⟩
     have n6_ : Aside0 (w60.heap[gb377]? = some (.cells #[.int .i64 t371, .int .i64 t372, .int .i64 t373, .slice Ao16 t374.length co16] 25 (0, 0))) := ⟨h6_⟩
     have n7_ : Aside0 (w60.heap[gb384]? = some (.cells #[.int .i64 t378, .int .i64 t379, .int .i64 t380, .slice Ao21 t381.length co21] 25 (0, 0))) := ⟨h7_⟩
     have n8_ : Aside0 (w60.heap[gb400]? = some (.cells #[.int .i64 t393, .int .i64 t394, .int .i64 t395, .slice Ao52 t396.length co52] 25 (0, 0))) := ⟨h8_⟩
     have n9_ : Aside0 (w60.heap[gb414]? = some (.cells #[.int .i64 0, .int .i64 0, .int .i64 0, .slice none 0 0] 25 (0, 0))) := ⟨h9_⟩
     have n10_ : Aside0 (w.heap.size ≤ gb414) := ⟨h10_⟩
     have n11_ : Aside0 (w.heap.size ≤ gb414) := ⟨h11_⟩
     have n12_ : Aside0 (gb377 ≠ gb414) := ⟨h12_⟩
     have n13_ : Aside0 (gb414 ≠ gb377) := ⟨h13_⟩
     have n14_ : Aside0 (gb384 ≠ gb414) := ⟨h14_⟩
     have n15_ : Aside0 (gb414 ≠ gb384) := ⟨h15_⟩
     have n16_ : Aside0 (gb400 ≠ gb414) := ⟨h16_⟩
     have n17_ : Aside0 (gb414 ≠ gb400) := ⟨h17_⟩
     have n18_ : Aside0 (Below w.heap.size w w60) := ⟨h18_⟩
     clear HO_378003 HO_385003 HO392 HO398 BK377 BK384 BK400 HB h0_ h1_ h2_ h3_ h4_ h5_ h6_ h7_ h8_ h9_ h10_ h11_ h12_ h13_ h14_ h15_ h16_ h17_ h18_
     have HO392 := n0_
     have HO398 := n1_
     have HO406 := n2_
     have HO412 := n3_
     have HO_378003 := n4_
     have HO_385003 := n5_
     have BK377 := n6_
     have BK384 := n7_
     have BK400 := n8_
     have BK414 := n9_
     have GW414 := n10_
     have GE414 := n11_
     have NB377_414 := n12_
     have NB414_377 := n13_
     have NB384_414 := n14_
     have NB414_384 := n15_
     have NB400_414 := n16_
     have NB414_400 := n17_
     have HB := n18_
     clear n0_ n1_ n2_ n3_ n4_ n5_ n6_ n7_ n8_ n9_ n10_ n11_ n12_ n13_ n14_ n15_ n16_ n17_ n18_
     have hHeld : w60.cell? ⟨gb377, 0, none⟩ = some (.int .i64 t371) ∧ w60.cell? ⟨gb377, 1, none⟩ = some (.int .i64 t372) ∧ w60.cell? ⟨gb377, 2, none⟩ = some (.int .i64 t373) ∧ w60.cell? ⟨gb377, 3, none⟩ = some (.slice Ao16 t374.length co16) := hS_
     obtain ⟨Ao64, co64, eo64⟩ := Kd.R_slice HO412.out
     (first | subst eo64 | (injection eo64 with f1_ f2_ f3_; have f4_ := f1_.symm; have f5_ := f3_.symm; clear f1_ f2_ f3_; subst f4_; subst f5_))
     refine norm_ (a' := ?_) ?_ ?_
     rotate_left
     ·
      simp only [putAll, Act.put, List.setIfInBounds_toArray, List.set_cons_zero, List.set_cons_succ]
      rfl
     refine on 9 none (lm 11 1023) HT_ (fun K hK => ?_)
     have hs61 : w60.cell? ⟨gb414, 0, none⟩ = some (.int .i64 0) := bk BK414 0
     have hfs61 := blk_frozen BK414.out 0
     have hns61_0 := NB377_414.out
     have hns61_1 := NB384_414.out
     have hns61_2 := NB400_414.out
     have hms61_0 := NB414_377.out
     have hms61_1 := NB414_384.out
     have hms61_2 := NB414_400.out
     have hs62 : w60.cell? ⟨gb414, 1, none⟩ = some (.int .i64 0) := bk BK414 1
     have hfs62 := blk_frozen BK414.out 1
     have hns62_0 := NB377_414.out
     have hns62_1 := NB384_414.out
     have hns62_2 := NB400_414.out
     have hms62_0 := NB414_377.out
     have hms62_1 := NB414_384.out
     have hms62_2 := NB414_400.out
     have hs63 : w60.cell? ⟨gb414, 2, none⟩ = some (.int .i64 0) := bk BK414 2
     have hfs63 := blk_frozen BK414.out 2
     have hns63_0 := NB377_414.out
     have hns63_1 := NB384_414.out
     have hns63_2 := NB400_414.out
     have hms63_0 := NB414_377.out
     have hms63_1 := NB414_384.out
     have hms63_2 := NB414_400.out
     have hs65 : w60.cell? ⟨gb414, 3, none⟩ = some (.slice none 0 0) := bk BK414 3
     have hfs65 := blk_frozen BK414.out 3
     have hns65_0 := NB377_414.out
     have hns65_1 := NB384_414.out
     have hns65_2 := NB400_414.out
     have hms65_0 := NB414_377.out
     have hms65_1 := NB414_384.out
     have hms65_2 := NB414_400.out
     refine skip_ (w1 := ?_) (by rfl) rfl ?_ ?_
     rotate_left
     ·
      go_simp
      rfl
     refine hK.out _ _ ⟨((cell_far (p := ⟨gb414, _, none⟩) NB377_414.out _).trans (((cell_far (p := ⟨gb414, _, none⟩) NB377_414.out _).trans (((cell_far (p := ⟨gb414, _, none⟩) NB377_414.out _).trans (((cell_far (p := ⟨gb414, _, none⟩) NB377_414.out _).trans (hHeld.1)))))))), ((cell_far (p := ⟨gb414, _, none⟩) NB377_414.out _).trans (((cell_far (p := ⟨gb414, _, none⟩) NB377_414.out _).trans (((cell_far (p := ⟨gb414, _, none⟩) NB377_414.out _).trans (((cell_far (p := ⟨gb414, _, none⟩) NB377_414.out _).trans (hHeld.2.1)))))))), ((cell_far (p := ⟨gb414, _, none⟩) NB377_414.out _).trans (((cell_far (p := ⟨gb414, _, none⟩) NB377_414.out _).trans (((cell_far (p := ⟨gb414, _, none⟩) NB377_414.out _).trans (((cell_far (p := ⟨gb414, _, none⟩) NB377_414.out _).trans (hHeld.2.2.1)))))))), ((cell_far (p := ⟨gb414, _, none⟩) NB377_414.out _).trans (((cell_far (p := ⟨gb414, _, none⟩) NB377_414.out _).trans (((cell_far (p := ⟨gb414, _, none⟩) NB377_414.out _).trans (((cell_far (p := ⟨gb414, _, none⟩) NB377_414.out _).trans (hHeld.2.2.2))))))))⟩ (fun hHeld => ?_)
     clear hK K
     refine pu 10 14 (lm 11 2047) HT_ ?_
     refine done_ (done_of HT_.out (by kernel_rfl)) ?_
     have hnb66 := NB377_384.out
     have hnc66 := NB384_377.out
     have hnb67 := NB377_400.out
     have hnc67 := NB400_377.out
     have hnb68 := NB377_414.out
     have hnc68 := NB414_377.out
     have hcz69_0 := bc BK377 0 rfl
     have hcz69_1 := bc BK377 1 rfl
     have hcz69_2 := bc BK377 2 rfl
     have hcz69_3 := bc BK377 3 rfl
     have hfz69_0 := blk_frozen BK377.out 0
     have hfz69_1 := blk_frozen BK377.out 1
     have hfz69_2 := blk_frozen BK377.out 2
     have hfz69_3 := blk_frozen BK377.out 3
     have hnb70 := NB384_400.out
     have hnc70 := NB400_384.out
     have hnb71 := NB384_414.out
     have hnc71 := NB414_384.out
     have hcz72_0 := bc BK384 0 rfl
     have hcz72_1 := bc BK384 1 rfl
     have hcz72_2 := bc BK384 2 rfl
     have hcz72_3 := bc BK384 3 rfl
     have hfz72_0 := blk_frozen BK384.out 0
     have hfz72_1 := blk_frozen BK384.out 1
     have hfz72_2 := blk_frozen BK384.out 2
     have hfz72_3 := blk_frozen BK384.out 3
     try go_wp2_with (first | ((with_reducible refine gate_callee (f := 8) rfl ?_); refine goesL_ (some 64) rfl rfl Try.func8 (by kernel_rfl) rfl #[.pointer none, .agg #[.int .i64 t371, .int .i64 t372, .int .i64 t373, .slice Ao16 t374.length co16], .agg #[.int .i64 t378, .int .i64 t379, .int .i64 t380, .slice Ao21 t381.length co21]] rfl ga ?_; (with_reducible refine (mul_Gemm_nil.calls kj10  t371 t372 t373 _ _ t374 t378 t379 t380 _ _ t381 t415 t416 t417 t418 t421 _ ?side1 ?side2 ?side3 ?side4 A38.out).mono ?_); (case side1 => refine (Kd.R_reads' (e := 33) (base := w.heap.size) (ok := fun k_ => (some k_ ≠ (v391 : Value).ownBlock ∧ (some k_ ≠ (.slice Ao52 t396.length co52 : Value).ownBlock ∧ (some k_ ≠ (v405 : Value).ownBlock ∧ (some k_ ≠ (.slice Ao64 t410.length co64 : Value).ownBlock ∧ some k_ ≠ (.slice Ao21 t381.length co21 : Value).ownBlock))))) (n := t374.length) (c := co16) ?_).2.2; exact (by (with_reducible repeat (first | apply Kd.R_alloc | apply Kd.R_drewN | apply Kd.R_drew)); exact (Kd.R_mono (Kd.R_far (p := ⟨gb414, 3, none⟩) (Kd.R_far (p := ⟨gb414, 2, none⟩) (Kd.R_far (p := ⟨gb414, 1, none⟩) (Kd.R_far (p := ⟨gb414, 0, none⟩) (Kd.R_types HO_378003.out BK414.out (by decide)) (fun _ hk => hk.2) (.int .i64 t407)) (fun _ hk => hk.2) (.int .i64 t408)) (fun _ hk => hk.2) (.int .i64 t409)) (fun _ hk => hk.2) (.slice Ao64 t410.length co64)) (fun _ h_ => h_.1)))); (case side2 => exact (Kd.R_reads' HO_378003.out).2.1); (case side3 => refine (Kd.R_reads' (e := 33) (base := w.heap.size) (ok := fun k_ => (some k_ ≠ (v391 : Value).ownBlock ∧ (some k_ ≠ (.slice Ao52 t396.length co52 : Value).ownBlock ∧ (some k_ ≠ (v405 : Value).ownBlock ∧ (some k_ ≠ (.slice Ao64 t410.length co64 : Value).ownBlock ∧ some k_ ≠ (.slice Ao16 t374.length co16 : Value).ownBlock))))) (n := t381.length) (c := co21) ?_).2.2; exact (by (with_reducible repeat (first | apply Kd.R_alloc | apply Kd.R_drewN | apply Kd.R_drew)); exact (Kd.R_mono (Kd.R_far (p := ⟨gb414, 3, none⟩) (Kd.R_far (p := ⟨gb414, 2, none⟩) (Kd.R_far (p := ⟨gb414, 1, none⟩) (Kd.R_far (p := ⟨gb414, 0, none⟩) (Kd.R_types HO_385003.out BK414.out (by decide)) (fun _ hk => hk.2) (.int .i64 t407)) (fun _ hk => hk.2) (.int .i64 t408)) (fun _ hk => hk.2) (.int .i64 t409)) (fun _ hk => hk.2) (.slice Ao64 t410.length co64)) (fun _ h_ => h_.1)))); (case side4 => exact (Kd.R_reads' HO_385003.out).2.1); rintro e w73 ⟨v419, rfl, ho0, hb⟩; refine ⟨_, rfl, ?_⟩; refine ax12 (Kd.R_elder' (by (with_reducible repeat (first | apply Kd.R_alloc | apply Kd.R_drewN | apply Kd.R_drew)); exact (Kd.R_mono (Kd.R_far (p := ⟨gb414, 3, none⟩) (Kd.R_far (p := ⟨gb414, 2, none⟩) (Kd.R_far (p := ⟨gb414, 1, none⟩) (Kd.R_far (p := ⟨gb414, 0, none⟩) (Kd.R_types HO_378003.out BK414.out (by decide)) (fun _ hk => hk.2) (.int .i64 t407)) (fun _ hk => hk.2) (.int .i64 t408)) (fun _ hk => hk.2) (.int .i64 t409)) (fun _ hk => hk.2) (.slice Ao64 t410.length co64)) (fun _ h_ => h_.1))) (Kd.R_base ho0) hb) (Kd.R_elder' (by (with_reducible repeat (first | apply Kd.R_alloc | apply Kd.R_drewN | apply Kd.R_drew)); exact (Kd.R_mono (Kd.R_far (p := ⟨gb414, 3, none⟩) (Kd.R_far (p := ⟨gb414, 2, none⟩) (Kd.R_far (p := ⟨gb414, 1, none⟩) (Kd.R_far (p := ⟨gb414, 0, none⟩) (Kd.R_types HO_385003.out BK414.out (by decide)) (fun _ hk => hk.2) (.int .i64 t407)) (fun _ hk => hk.2) (.int .i64 t408)) (fun _ hk => hk.2) (.int .i64 t409)) (fun _ hk => hk.2) (.slice Ao64 t410.length co64)) (fun _ h_ => h_.1))) (Kd.R_base ho0) hb) (Kd.R_elder' (by (with_reducible repeat (first | apply Kd.R_alloc | apply Kd.R_drewN | apply Kd.R_drew)); exact (Kd.R_mono (Kd.R_far (p := ⟨gb414, 3, none⟩) (Kd.R_far (p := ⟨gb414, 2, none⟩) (Kd.R_far (p := ⟨gb414, 1, none⟩) (Kd.R_far (p := ⟨gb414, 0, none⟩) (Kd.R_types HO392.out BK414.out (by decide)) (fun _ hk => hk.2) (.int .i64 t407)) (fun _ hk => hk.2) (.int .i64 t408)) (fun _ hk => hk.2) (.int .i64 t409)) (fun _ hk => hk.2) (.slice Ao64 t410.length co64)) (fun _ h_ => h_.1))) (Kd.R_base ho0) hb) (Kd.R_elder' (by (with_reducible repeat (first | apply Kd.R_alloc | apply Kd.R_drewN | apply Kd.R_drew)); exact (Kd.R_mono (Kd.R_far (p := ⟨gb414, 3, none⟩) (Kd.R_far (p := ⟨gb414, 2, none⟩) (Kd.R_far (p := ⟨gb414, 1, none⟩) (Kd.R_far (p := ⟨gb414, 0, none⟩) (Kd.R_types HO398.out BK414.out (by decide)) (fun _ hk => hk.2) (.int .i64 t407)) (fun _ hk => hk.2) (.int .i64 t408)) (fun _ hk => hk.2) (.int .i64 t409)) (fun _ hk => hk.2) (.slice Ao64 t410.length co64)) (fun _ h_ => h_.1))) (Kd.R_base ho0) hb) (Kd.R_elder' (by (with_reducible repeat (first | apply Kd.R_alloc | apply Kd.R_drewN | apply Kd.R_drew)); exact (Kd.R_mono (Kd.R_far (p := ⟨gb414, 3, none⟩) (Kd.R_far (p := ⟨gb414, 2, none⟩) (Kd.R_far (p := ⟨gb414, 1, none⟩) (Kd.R_far (p := ⟨gb414, 0, none⟩) (Kd.R_types HO406.out BK414.out (by decide)) (fun _ hk => hk.2) (.int .i64 t407)) (fun _ hk => hk.2) (.int .i64 t408)) (fun _ hk => hk.2) (.int .i64 t409)) (fun _ hk => hk.2) (.slice Ao64 t410.length co64)) (fun _ h_ => h_.1))) (Kd.R_base ho0) hb) (Kd.R_elder' (by (with_reducible repeat (first | apply Kd.R_alloc | apply Kd.R_drewN | apply Kd.R_drew)); exact (Kd.R_mono (Kd.R_far (p := ⟨gb414, 3, none⟩) (Kd.R_far (p := ⟨gb414, 2, none⟩) (Kd.R_far (p := ⟨gb414, 1, none⟩) (Kd.R_far (p := ⟨gb414, 0, none⟩) (Kd.R_types HO412.out BK414.out (by decide)) (fun _ hk => hk.2) (.int .i64 t407)) (fun _ hk => hk.2) (.int .i64 t408)) (fun _ hk => hk.2) (.int .i64 t409)) (fun _ hk => hk.2) (.slice Ao64 t410.length co64)) (fun _ h_ => h_.1))) (Kd.R_base ho0) hb) (Kd.R_lower (Kd.R_new' (Kd.R_new' (Kd.R_new' (Kd.R_new' (Kd.R_new' (Kd.R_new' ho0 (Kd.R_lt (by (with_reducible repeat (first | apply Kd.R_alloc | apply Kd.R_drewN | apply Kd.R_drew)); exact (Kd.R_mono (Kd.R_far (p := ⟨gb414, 3, none⟩) (Kd.R_far (p := ⟨gb414, 2, none⟩) (Kd.R_far (p := ⟨gb414, 1, none⟩) (Kd.R_far (p := ⟨gb414, 0, none⟩) (Kd.R_types HO_378003.out BK414.out (by decide)) (fun _ hk => hk.2) (.int .i64 t407)) (fun _ hk => hk.2) (.int .i64 t408)) (fun _ hk => hk.2) (.int .i64 t409)) (fun _ hk => hk.2) (.slice Ao64 t410.length co64)) (fun _ h_ => h_.1))))) (Kd.R_lt (by (with_reducible repeat (first | apply Kd.R_alloc | apply Kd.R_drewN | apply Kd.R_drew)); exact (Kd.R_mono (Kd.R_far (p := ⟨gb414, 3, none⟩) (Kd.R_far (p := ⟨gb414, 2, none⟩) (Kd.R_far (p := ⟨gb414, 1, none⟩) (Kd.R_far (p := ⟨gb414, 0, none⟩) (Kd.R_types HO_385003.out BK414.out (by decide)) (fun _ hk => hk.2) (.int .i64 t407)) (fun _ hk => hk.2) (.int .i64 t408)) (fun _ hk => hk.2) (.int .i64 t409)) (fun _ hk => hk.2) (.slice Ao64 t410.length co64)) (fun _ h_ => h_.1))))) (Kd.R_lt (by (with_reducible repeat (first | apply Kd.R_alloc | apply Kd.R_drewN | apply Kd.R_drew)); exact (Kd.R_mono (Kd.R_far (p := ⟨gb414, 3, none⟩) (Kd.R_far (p := ⟨gb414, 2, none⟩) (Kd.R_far (p := ⟨gb414, 1, none⟩) (Kd.R_far (p := ⟨gb414, 0, none⟩) (Kd.R_types HO392.out BK414.out (by decide)) (fun _ hk => hk.2) (.int .i64 t407)) (fun _ hk => hk.2) (.int .i64 t408)) (fun _ hk => hk.2) (.int .i64 t409)) (fun _ hk => hk.2) (.slice Ao64 t410.length co64)) (fun _ h_ => h_.1))))) (Kd.R_lt (by (with_reducible repeat (first | apply Kd.R_alloc | apply Kd.R_drewN | apply Kd.R_drew)); exact (Kd.R_mono (Kd.R_far (p := ⟨gb414, 3, none⟩) (Kd.R_far (p := ⟨gb414, 2, none⟩) (Kd.R_far (p := ⟨gb414, 1, none⟩) (Kd.R_far (p := ⟨gb414, 0, none⟩) (Kd.R_types HO398.out BK414.out (by decide)) (fun _ hk => hk.2) (.int .i64 t407)) (fun _ hk => hk.2) (.int .i64 t408)) (fun _ hk => hk.2) (.int .i64 t409)) (fun _ hk => hk.2) (.slice Ao64 t410.length co64)) (fun _ h_ => h_.1))))) (Kd.R_lt (by (with_reducible repeat (first | apply Kd.R_alloc | apply Kd.R_drewN | apply Kd.R_drew)); exact (Kd.R_mono (Kd.R_far (p := ⟨gb414, 3, none⟩) (Kd.R_far (p := ⟨gb414, 2, none⟩) (Kd.R_far (p := ⟨gb414, 1, none⟩) (Kd.R_far (p := ⟨gb414, 0, none⟩) (Kd.R_types HO406.out BK414.out (by decide)) (fun _ hk => hk.2) (.int .i64 t407)) (fun _ hk => hk.2) (.int .i64 t408)) (fun _ hk => hk.2) (.int .i64 t409)) (fun _ hk => hk.2) (.slice Ao64 t410.length co64)) (fun _ h_ => h_.1))))) (Kd.R_lt (by (with_reducible repeat (first | apply Kd.R_alloc | apply Kd.R_drewN | apply Kd.R_drew)); exact (Kd.R_mono (Kd.R_far (p := ⟨gb414, 3, none⟩) (Kd.R_far (p := ⟨gb414, 2, none⟩) (Kd.R_far (p := ⟨gb414, 1, none⟩) (Kd.R_far (p := ⟨gb414, 0, none⟩) (Kd.R_types HO412.out BK414.out (by decide)) (fun _ hk => hk.2) (.int .i64 t407)) (fun _ hk => hk.2) (.int .i64 t408)) (fun _ hk => hk.2) (.int .i64 t409)) (fun _ hk => hk.2) (.slice Ao64 t410.length co64)) (fun _ h_ => h_.1))))) (below_size bes)) (blk_below (g := gb377) (o := .cells #[.int .i64 t371, .int .i64 t372, .int .i64 t373, .slice Ao16 t374.length co16] 25 (0, 0)) (bf BK377 NB377_414) hb) (blk_below (g := gb384) (o := .cells #[.int .i64 t378, .int .i64 t379, .int .i64 t380, .slice Ao21 t381.length co21] 25 (0, 0)) (bf BK384 NB384_414) hb) (blk_below (g := gb400) (o := .cells #[.int .i64 t393, .int .i64 t394, .int .i64 t395, .slice Ao52 t396.length co52] 25 (0, 0)) (bf BK400 NB400_414) hb) (blk_below (g := gb414) (o := .cells #[.int .i64 t407, .int .i64 t408, .int .i64 t409, .slice Ao64 t410.length co64] 25 (0, 0)) (bp BK414) hb) (below_step bes hb) ?_; clear HO_378003; clear HO_385003; clear HO392; clear HO398; clear HO406; clear HO412; clear BK377; clear BK384; clear BK400; clear BK414; clear HB; intro HO_378003 HO_385003 HO392 HO398 HO406 HO412 HO420 BK377 BK384 BK400 BK414 HB; (try clear hb); (try clear ho0)) | ((with_reducible refine gate_dst (N := 15) rfl ?_); refine gbox (N := 15) (cs := #[.int .i64 0, .int .i64 0, .int .i64 0, .slice none 0 0]) (t := 25) ?_; intro gb422 hg w74 hbox hb; refine ax23 (Kd.R_below (kr HO_378003) hb) (Kd.R_below (kr HO_385003) hb) (Kd.R_below (kr HO392) hb) (Kd.R_below (kr HO398) hb) (Kd.R_below (kr HO406) hb) (Kd.R_below (kr HO412) hb) (Kd.R_below (kr HO420) hb) (bb BK377 hb) (bb BK384 hb) (bb BK400 hb) (bb BK414 hb) (below_step bes hb) hbox ((ge hg : w.heap.size ≤ gb422)) ((ge hg : w.heap.size ≤ gb422)) (nl hg BK377) (ng hg BK377) (nl hg BK384) (ng hg BK384) (nl hg BK400) (ng hg BK400) (nl hg BK414) (ng hg BK414) ?_; clear HO_378003; clear HO_385003; clear HO392; clear HO398; clear HO406; clear HO412; clear HO420; clear BK377; clear BK384; clear BK400; clear BK414; clear HB; intro HO_378003 HO_385003 HO392 HO398 HO406 HO412 HO420 BK377 BK384 BK400 BK414 HB BK422 GW422 GE422 NB377_422 NB422_377 NB384_422 NB422_384 NB400_422 NB422_400 NB414_422 NB422_414; clear hb hbox hg; have hnb75 := NB422_377.out; have hnc75 := NB377_422.out; have hnb76 := NB422_384.out; have hnc76 := NB384_422.out; have hnb77 := NB422_400.out; have hnc77 := NB400_422.out; have hnb78 := NB422_414.out; have hnc78 := NB414_422.out; have hcz79_0 := bc BK422 0 rfl; have hcz79_1 := bc BK422 1 rfl; have hcz79_2 := bc BK422 2 rfl; have hcz79_3 := bc BK422 3 rfl; have hfz79_0 := blk_frozen BK422.out 0; have hfz79_1 := blk_frozen BK422.out 1; have hfz79_2 := blk_frozen BK422.out 2; have hfz79_3 := blk_frozen BK422.out 3; obtain ⟨Ao80, co80, eo80⟩ := Kd.R_slice HO420.out; subst eo80))
     have n0_ : Aside0 (Kd.R (Kd.int .u64) 33 ((((w74.setCell ⟨gb422, 0, none⟩ (.int .i64 t415)).setCell ⟨gb422, 1, none⟩ (.int .i64 t416)).setCell ⟨gb422, 2, none⟩ (.int .i64 t417)).setCell ⟨gb422, 3, none⟩ (.slice Ao80 t418.length co80)) w.heap.size (fun k_ => some k_ ≠ (.slice Ao21 t381.length co21 : Value).ownBlock ∧ some k_ ≠ (v391 : Value).ownBlock ∧ some k_ ≠ (.slice Ao52 t396.length co52 : Value).ownBlock ∧ some k_ ≠ (v405 : Value).ownBlock ∧ some k_ ≠ (.slice Ao64 t410.length co64 : Value).ownBlock ∧ some k_ ≠ (.slice Ao80 t418.length co80 : Value).ownBlock) (.slice Ao16 t374.length co16) t374) := ⟨by (with_reducible repeat (first | apply Kd.R_alloc | apply Kd.R_drewN | apply Kd.R_drew)); exact Kd.R_mono (Kd.R_far (p := ⟨gb422, 3, none⟩) (Kd.R_far (p := ⟨gb422, 2, none⟩) (Kd.R_far (p := ⟨gb422, 1, none⟩) (Kd.R_far (p := ⟨gb422, 0, none⟩) (Kd.R_types HO_378003.out BK422.out (by decide)) (fun _ hk => hk.2) (.int .i64 t415)) (fun _ hk => hk.2) (.int .i64 t416)) (fun _ hk => hk.2) (.int .i64 t417)) (fun _ hk => hk.2) (.slice Ao80 t418.length co80)) (fun _ hk => ⟨hk.1.1.2.2.2.2, ⟨hk.1.1.1, ⟨hk.1.1.2.1, ⟨hk.1.1.2.2.1, ⟨hk.1.1.2.2.2.1, hk.1.2⟩⟩⟩⟩⟩)⟩
     have n1_ : Aside0 (Kd.R (Kd.int .u64) 33 ((((w74.setCell ⟨gb422, 0, none⟩ (.int .i64 t415)).setCell ⟨gb422, 1, none⟩ (.int .i64 t416)).setCell ⟨gb422, 2, none⟩ (.int .i64 t417)).setCell ⟨gb422, 3, none⟩ (.slice Ao80 t418.length co80)) w.heap.size (fun k_ => some k_ ≠ (.slice Ao16 t374.length co16 : Value).ownBlock ∧ some k_ ≠ (v391 : Value).ownBlock ∧ some k_ ≠ (.slice Ao52 t396.length co52 : Value).ownBlock ∧ some k_ ≠ (v405 : Value).ownBlock ∧ some k_ ≠ (.slice Ao64 t410.length co64 : Value).ownBlock ∧ some k_ ≠ (.slice Ao80 t418.length co80 : Value).ownBlock) (.slice Ao21 t381.length co21) t381) := ⟨by (with_reducible repeat (first | apply Kd.R_alloc | apply Kd.R_drewN | apply Kd.R_drew)); exact Kd.R_mono (Kd.R_far (p := ⟨gb422, 3, none⟩) (Kd.R_far (p := ⟨gb422, 2, none⟩) (Kd.R_far (p := ⟨gb422, 1, none⟩) (Kd.R_far (p := ⟨gb422, 0, none⟩) (Kd.R_types HO_385003.out BK422.out (by decide)) (fun _ hk => hk.2) (.int .i64 t415)) (fun _ hk => hk.2) (.int .i64 t416)) (fun _ hk => hk.2) (.int .i64 t417)) (fun _ hk => hk.2) (.slice Ao80 t418.length co80)) (fun _ hk => ⟨hk.1.1.2.2.2.2, ⟨hk.1.1.1, ⟨hk.1.1.2.1, ⟨hk.1.1.2.2.1, ⟨hk.1.1.2.2.2.1, hk.1.2⟩⟩⟩⟩⟩)⟩
     have n2_ : Aside0 (Kd.R (Kd.int .u64) 33 ((((w74.setCell ⟨gb422, 0, none⟩ (.int .i64 t415)).setCell ⟨gb422, 1, none⟩ (.int .i64 t416)).setCell ⟨gb422, 2, none⟩ (.int .i64 t417)).setCell ⟨gb422, 3, none⟩ (.slice Ao80 t418.length co80)) w.heap.size (fun k_ => some k_ ≠ (.slice Ao16 t374.length co16 : Value).ownBlock ∧ some k_ ≠ (.slice Ao21 t381.length co21 : Value).ownBlock ∧ some k_ ≠ (.slice Ao52 t396.length co52 : Value).ownBlock ∧ some k_ ≠ (v405 : Value).ownBlock ∧ some k_ ≠ (.slice Ao64 t410.length co64 : Value).ownBlock ∧ some k_ ≠ (.slice Ao80 t418.length co80 : Value).ownBlock) v391 t390) := ⟨by (with_reducible repeat (first | apply Kd.R_alloc | apply Kd.R_drewN | apply Kd.R_drew)); exact Kd.R_mono (Kd.R_far (p := ⟨gb422, 3, none⟩) (Kd.R_far (p := ⟨gb422, 2, none⟩) (Kd.R_far (p := ⟨gb422, 1, none⟩) (Kd.R_far (p := ⟨gb422, 0, none⟩) (Kd.R_types HO392.out BK422.out (by decide)) (fun _ hk => hk.2) (.int .i64 t415)) (fun _ hk => hk.2) (.int .i64 t416)) (fun _ hk => hk.2) (.int .i64 t417)) (fun _ hk => hk.2) (.slice Ao80 t418.length co80)) (fun _ hk => ⟨hk.1.1.2.2.2.1, ⟨hk.1.1.2.2.2.2, ⟨hk.1.1.1, ⟨hk.1.1.2.1, ⟨hk.1.1.2.2.1, hk.1.2⟩⟩⟩⟩⟩)⟩
     have n3_ : Aside0 (Kd.R (Kd.int .u64) 33 ((((w74.setCell ⟨gb422, 0, none⟩ (.int .i64 t415)).setCell ⟨gb422, 1, none⟩ (.int .i64 t416)).setCell ⟨gb422, 2, none⟩ (.int .i64 t417)).setCell ⟨gb422, 3, none⟩ (.slice Ao80 t418.length co80)) w.heap.size (fun k_ => some k_ ≠ (.slice Ao16 t374.length co16 : Value).ownBlock ∧ some k_ ≠ (.slice Ao21 t381.length co21 : Value).ownBlock ∧ some k_ ≠ (v391 : Value).ownBlock ∧ some k_ ≠ (v405 : Value).ownBlock ∧ some k_ ≠ (.slice Ao64 t410.length co64 : Value).ownBlock ∧ some k_ ≠ (.slice Ao80 t418.length co80 : Value).ownBlock) (.slice Ao52 t396.length co52) t396) := ⟨by (with_reducible repeat (first | apply Kd.R_alloc | apply Kd.R_drewN | apply Kd.R_drew)); exact Kd.R_mono (Kd.R_far (p := ⟨gb422, 3, none⟩) (Kd.R_far (p := ⟨gb422, 2, none⟩) (Kd.R_far (p := ⟨gb422, 1, none⟩) (Kd.R_far (p := ⟨gb422, 0, none⟩) (Kd.R_types HO398.out BK422.out (by decide)) (fun _ hk => hk.2) (.int .i64 t415)) (fun _ hk => hk.2) (.int .i64 t416)) (fun _ hk => hk.2) (.int .i64 t417)) (fun _ hk => hk.2) (.slice Ao80 t418.length co80)) (fun _ hk => ⟨hk.1.1.2.2.2.1, ⟨hk.1.1.2.2.2.2, ⟨hk.1.1.1, ⟨hk.1.1.2.1, ⟨hk.1.1.2.2.1, hk.1.2⟩⟩⟩⟩⟩)⟩
     have n4_ : Aside0 (Kd.R (Kd.int .u64) 33 ((((w74.setCell ⟨gb422, 0, none⟩ (.int .i64 t415)).setCell ⟨gb422, 1, none⟩ (.int .i64 t416)).setCell ⟨gb422, 2, none⟩ (.int .i64 t417)).setCell ⟨gb422, 3, none⟩ (.slice Ao80 t418.length co80)) w.heap.size (fun k_ => some k_ ≠ (.slice Ao16 t374.length co16 : Value).ownBlock ∧ some k_ ≠ (.slice Ao21 t381.length co21 : Value).ownBlock ∧ some k_ ≠ (v391 : Value).ownBlock ∧ some k_ ≠ (.slice Ao52 t396.length co52 : Value).ownBlock ∧ some k_ ≠ (.slice Ao64 t410.length co64 : Value).ownBlock ∧ some k_ ≠ (.slice Ao80 t418.length co80 : Value).ownBlock) v405 t404) := ⟨by (with_reducible repeat (first | apply Kd.R_alloc | apply Kd.R_drewN | apply Kd.R_drew)); exact Kd.R_mono (Kd.R_far (p := ⟨gb422, 3, none⟩) (Kd.R_far (p := ⟨gb422, 2, none⟩) (Kd.R_far (p := ⟨gb422, 1, none⟩) (Kd.R_far (p := ⟨gb422, 0, none⟩) (Kd.R_types HO406.out BK422.out (by decide)) (fun _ hk => hk.2) (.int .i64 t415)) (fun _ hk => hk.2) (.int .i64 t416)) (fun _ hk => hk.2) (.int .i64 t417)) (fun _ hk => hk.2) (.slice Ao80 t418.length co80)) (fun _ hk => ⟨hk.1.1.2.2.2.1, ⟨hk.1.1.2.2.2.2, ⟨hk.1.1.1, ⟨hk.1.1.2.1, ⟨hk.1.1.2.2.1, hk.1.2⟩⟩⟩⟩⟩)⟩
     have n5_ : Aside0 (Kd.R (Kd.int .u64) 33 ((((w74.setCell ⟨gb422, 0, none⟩ (.int .i64 t415)).setCell ⟨gb422, 1, none⟩ (.int .i64 t416)).setCell ⟨gb422, 2, none⟩ (.int .i64 t417)).setCell ⟨gb422, 3, none⟩ (.slice Ao80 t418.length co80)) w.heap.size (fun k_ => some k_ ≠ (.slice Ao16 t374.length co16 : Value).ownBlock ∧ some k_ ≠ (.slice Ao21 t381.length co21 : Value).ownBlock ∧ some k_ ≠ (v391 : Value).ownBlock ∧ some k_ ≠ (.slice Ao52 t396.length co52 : Value).ownBlock ∧ some k_ ≠ (v405 : Value).ownBlock ∧ some k_ ≠ (.slice Ao80 t418.length co80 : Value).ownBlock) (.slice Ao64 t410.length co64) t410) := ⟨by (with_reducible repeat (first | apply Kd.R_alloc | apply Kd.R_drewN | apply Kd.R_drew)); exact Kd.R_mono (Kd.R_far (p := ⟨gb422, 3, none⟩) (Kd.R_far (p := ⟨gb422, 2, none⟩) (Kd.R_far (p := ⟨gb422, 1, none⟩) (Kd.R_far (p := ⟨gb422, 0, none⟩) (Kd.R_types HO412.out BK422.out (by decide)) (fun _ hk => hk.2) (.int .i64 t415)) (fun _ hk => hk.2) (.int .i64 t416)) (fun _ hk => hk.2) (.int .i64 t417)) (fun _ hk => hk.2) (.slice Ao80 t418.length co80)) (fun _ hk => ⟨hk.1.1.2.2.2.1, ⟨hk.1.1.2.2.2.2, ⟨hk.1.1.1, ⟨hk.1.1.2.1, ⟨hk.1.1.2.2.1, hk.1.2⟩⟩⟩⟩⟩)⟩
     have n6_ : Aside0 (Kd.R (Kd.int .u64) 33 ((((w74.setCell ⟨gb422, 0, none⟩ (.int .i64 t415)).setCell ⟨gb422, 1, none⟩ (.int .i64 t416)).setCell ⟨gb422, 2, none⟩ (.int .i64 t417)).setCell ⟨gb422, 3, none⟩ (.slice Ao80 t418.length co80)) w.heap.size (fun k_ => some k_ ≠ (.slice Ao16 t374.length co16 : Value).ownBlock ∧ some k_ ≠ (.slice Ao21 t381.length co21 : Value).ownBlock ∧ some k_ ≠ (v391 : Value).ownBlock ∧ some k_ ≠ (.slice Ao52 t396.length co52 : Value).ownBlock ∧ some k_ ≠ (v405 : Value).ownBlock ∧ some k_ ≠ (.slice Ao64 t410.length co64 : Value).ownBlock) (.slice Ao80 t418.length co80) t418) := ⟨by (with_reducible repeat (first | apply Kd.R_alloc | apply Kd.R_drewN | apply Kd.R_drew)); exact Kd.R_mono (Kd.R_far (p := ⟨gb422, 3, none⟩) (Kd.R_far (p := ⟨gb422, 2, none⟩) (Kd.R_far (p := ⟨gb422, 1, none⟩) (Kd.R_far (p := ⟨gb422, 0, none⟩) (Kd.R_types HO420.out BK422.out (by decide)) (fun _ hk => hk.2) (.int .i64 t415)) (fun _ hk => hk.2) (.int .i64 t416)) (fun _ hk => hk.2) (.int .i64 t417)) (fun _ hk => hk.2) (.slice Ao80 t418.length co80)) (fun _ hk => ⟨hk.1.1.1.1.1.1.2, ⟨hk.1.1.1.1.1.2, ⟨hk.1.1.1.1.2, ⟨hk.1.1.1.2, ⟨hk.1.1.2, hk.1.2⟩⟩⟩⟩⟩)⟩
     have n7_ : Aside0 (((((w74.setCell ⟨gb422, 0, none⟩ (.int .i64 t415)).setCell ⟨gb422, 1, none⟩ (.int .i64 t416)).setCell ⟨gb422, 2, none⟩ (.int .i64 t417)).setCell ⟨gb422, 3, none⟩ (.slice Ao80 t418.length co80)).heap[gb377]? = some (.cells #[.int .i64 t371, .int .i64 t372, .int .i64 t373, .slice Ao16 t374.length co16] 25 (0, 0))) := ⟨bf BK377 NB377_422⟩
     have n8_ : Aside0 (((((w74.setCell ⟨gb422, 0, none⟩ (.int .i64 t415)).setCell ⟨gb422, 1, none⟩ (.int .i64 t416)).setCell ⟨gb422, 2, none⟩ (.int .i64 t417)).setCell ⟨gb422, 3, none⟩ (.slice Ao80 t418.length co80)).heap[gb384]? = some (.cells #[.int .i64 t378, .int .i64 t379, .int .i64 t380, .slice Ao21 t381.length co21] 25 (0, 0))) := ⟨bf BK384 NB384_422⟩
     have n9_ : Aside0 (((((w74.setCell ⟨gb422, 0, none⟩ (.int .i64 t415)).setCell ⟨gb422, 1, none⟩ (.int .i64 t416)).setCell ⟨gb422, 2, none⟩ (.int .i64 t417)).setCell ⟨gb422, 3, none⟩ (.slice Ao80 t418.length co80)).heap[gb400]? = some (.cells #[.int .i64 t393, .int .i64 t394, .int .i64 t395, .slice Ao52 t396.length co52] 25 (0, 0))) := ⟨bf BK400 NB400_422⟩
     have n10_ : Aside0 (((((w74.setCell ⟨gb422, 0, none⟩ (.int .i64 t415)).setCell ⟨gb422, 1, none⟩ (.int .i64 t416)).setCell ⟨gb422, 2, none⟩ (.int .i64 t417)).setCell ⟨gb422, 3, none⟩ (.slice Ao80 t418.length co80)).heap[gb414]? = some (.cells #[.int .i64 t407, .int .i64 t408, .int .i64 t409, .slice Ao64 t410.length co64] 25 (0, 0))) := ⟨bf BK414 NB414_422⟩
     have n11_ : Aside0 (((((w74.setCell ⟨gb422, 0, none⟩ (.int .i64 t415)).setCell ⟨gb422, 1, none⟩ (.int .i64 t416)).setCell ⟨gb422, 2, none⟩ (.int .i64 t417)).setCell ⟨gb422, 3, none⟩ (.slice Ao80 t418.length co80)).heap[gb422]? = some (.cells #[.int .i64 t415, .int .i64 t416, .int .i64 t417, .slice Ao80 t418.length co80] 25 (0, 0))) := ⟨bp BK422⟩
     have n12_ : Aside0 (Below w.heap.size w ((((w74.setCell ⟨gb422, 0, none⟩ (.int .i64 t415)).setCell ⟨gb422, 1, none⟩ (.int .i64 t416)).setCell ⟨gb422, 2, none⟩ (.int .i64 t417)).setCell ⟨gb422, 3, none⟩ (.slice Ao80 t418.length co80))) := ⟨bes⟩
     (try clear HO_378003)
     (try clear HO_385003)
     (try clear HO392)
     (try clear HO398)
     (try clear HO406)
     (try clear HO412)
     (try clear HO420)
     (try clear BK377)
     (try clear BK384)
     (try clear BK400)
     (try clear BK414)
     (try clear BK422)
     (try clear HB)
     generalize ((((w74.setCell ⟨gb422, 0, none⟩ (.int .i64 t415)).setCell ⟨gb422, 1, none⟩ (.int .i64 t416)).setCell ⟨gb422, 2, none⟩ (.int .i64 t417)).setCell ⟨gb422, 3, none⟩ (.slice Ao80 t418.length co80)) = w81 at n0_ n1_ n2_ n3_ n4_ n5_ n6_ n7_ n8_ n9_ n10_ n11_ n12_ ⊢
     have HO_378003 := n0_
     have HO_385003 := n1_
     have HO392 := n2_
     have HO398 := n3_
     have HO406 := n4_
     have HO412 := n5_
     have HO420 := n6_
     have BK377 := n7_
     have BK384 := n8_
     have BK400 := n9_
     have BK414 := n10_
     have BK422 := n11_
     have HB := n12_
     clear n0_ n1_ n2_ n3_ n4_ n5_ n6_ n7_ n8_ n9_ n10_ n11_ n12_
     refine ax13 (Kd.R_drew HO_378003.out) (Kd.R_drew HO_385003.out) (Kd.R_drew HO392.out) (Kd.R_drew HO398.out) (Kd.R_drew HO406.out) (Kd.R_drew HO412.out) (Kd.R_drew HO420.out) (blk_drew BK377.out) (blk_drew BK384.out) (blk_drew BK400.out) (blk_drew BK414.out) (blk_drew BK422.out) (below_drew1 HB.out) ?_
     clear HO_378003 HO_385003 HO392 HO398 HO406 HO412 HO420 BK377 BK384 BK400 BK414 BK422 HB
     intro HO_378003 HO_385003 HO392 HO398 HO406 HO412 HO420 BK377 BK384 BK400 BK414 BK422 HB
     refine start_ (n := 11) (S := fun w' => w'.cell? ⟨gb384, 0, none⟩ = some (.int .i64 t378) ∧ w'.cell? ⟨gb384, 1, none⟩ = some (.int .i64 t379) ∧ w'.cell? ⟨gb384, 2, none⟩ = some (.int .i64 t380) ∧ w'.cell? ⟨gb384, 3, none⟩ = some (.slice Ao21 t381.length co21) ∧ w'.cell? ⟨gb377, 0, none⟩ = some (.int .i64 t371) ∧ w'.cell? ⟨gb377, 1, none⟩ = some (.int .i64 t372) ∧ w'.cell? ⟨gb377, 2, none⟩ = some (.int .i64 t373) ∧ w'.cell? ⟨gb377, 3, none⟩ = some (.slice Ao16 t374.length co16)) (ds := []) #[false, false, false, false, false, false, false, false, false, false, false] (by kernel_rfl) rfl rfl ⟨bk BK384 0, bk BK384 1, bk BK384 2, bk BK384 3, bk BK377 0, bk BK377 1, bk BK377 2, bk BK377 3⟩ (fun hHeld => ?_); refine with_tabW gimballaw11_MulOnes.tab12 gimballaw11_MulOnes.bits12 (fun HT_ HW_ => ?_)
     generalize w81.drew = w82 at HO_378003 HO_385003 HO392 HO398 HO406 HO412 HO420 BK377 BK384 BK400 BK414 BK422 HB hHeld ⊢
     refine ta 0 68 (lm 11 1) HT_ HW_ hHeld ?_
     refine ta 2 70 (lm 11 5) HT_ HW_ hHeld ?_
     refine join_ (σ := Value × Value × Value × Nat) 2 #[true, true, true, true, true, true, true, true, true, false, false] (fun s_ => [(69, .agg #[.int .i64 t423, .int .i64 t424, .int .i64 t425, s_.1]), (71, .agg #[.int .i64 t429, .int .i64 t430, .int .i64 t431, s_.2.1]), (72, .tuple #[.agg #[.int .i64 t435, .int .i64 t436, .int .i64 t437, s_.2.2.1], .int .i64 t441]), (17, .pointer (some ⟨s_.2.2.2, 0, none⟩)), (67, .tuple #[.agg #[.int .i64 t435, .int .i64 t436, .int .i64 t437, s_.2.2.1], .int .i64 t441]), (73, .agg #[.int .i64 t435, .int .i64 t436, .int .i64 t437, s_.2.2.1]), (74, .int .i64 t441)]) (fun s_ w' => (w'.cell? ⟨gb384, 0, none⟩ = some (.int .i64 t378) ∧ w'.cell? ⟨gb384, 1, none⟩ = some (.int .i64 t379) ∧ w'.cell? ⟨gb384, 2, none⟩ = some (.int .i64 t380) ∧ w'.cell? ⟨gb384, 3, none⟩ = some (.slice Ao21 t381.length co21) ∧ w'.cell? ⟨gb377, 0, none⟩ = some (.int .i64 t371) ∧ w'.cell? ⟨gb377, 1, none⟩ = some (.int .i64 t372) ∧ w'.cell? ⟨gb377, 2, none⟩ = some (.int .i64 t373) ∧ w'.cell? ⟨gb377, 3, none⟩ = some (.slice Ao16 t374.length co16)) ∧ (Kd.R (Kd.int .u64) 33 w' w.heap.size (fun k_ => some k_ ≠ (.slice Ao52 t396.length co52 : Value).ownBlock ∧ some k_ ≠ (v405 : Value).ownBlock ∧ some k_ ≠ (.slice Ao64 t410.length co64 : Value).ownBlock ∧ some k_ ≠ (.slice Ao80 t418.length co80 : Value).ownBlock ∧ some k_ ≠ (s_.1 : Value).ownBlock ∧ some k_ ≠ (s_.2.1 : Value).ownBlock ∧ some k_ ≠ (s_.2.2.1 : Value).ownBlock ∧ some k_ ≠ (.slice Ao16 t374.length co16 : Value).ownBlock ∧ some k_ ≠ (.slice Ao21 t381.length co21 : Value).ownBlock) v391 t390) ∧ (Kd.R (Kd.int .u64) 33 w' w.heap.size (fun k_ => some k_ ≠ (v391 : Value).ownBlock ∧ some k_ ≠ (v405 : Value).ownBlock ∧ some k_ ≠ (.slice Ao64 t410.length co64 : Value).ownBlock ∧ some k_ ≠ (.slice Ao80 t418.length co80 : Value).ownBlock ∧ some k_ ≠ (s_.1 : Value).ownBlock ∧ some k_ ≠ (s_.2.1 : Value).ownBlock ∧ some k_ ≠ (s_.2.2.1 : Value).ownBlock ∧ some k_ ≠ (.slice Ao16 t374.length co16 : Value).ownBlock ∧ some k_ ≠ (.slice Ao21 t381.length co21 : Value).ownBlock) (.slice Ao52 t396.length co52) t396) ∧ (Kd.R (Kd.int .u64) 33 w' w.heap.size (fun k_ => some k_ ≠ (v391 : Value).ownBlock ∧ some k_ ≠ (.slice Ao52 t396.length co52 : Value).ownBlock ∧ some k_ ≠ (.slice Ao64 t410.length co64 : Value).ownBlock ∧ some k_ ≠ (.slice Ao80 t418.length co80 : Value).ownBlock ∧ some k_ ≠ (s_.1 : Value).ownBlock ∧ some k_ ≠ (s_.2.1 : Value).ownBlock ∧ some k_ ≠ (s_.2.2.1 : Value).ownBlock ∧ some k_ ≠ (.slice Ao16 t374.length co16 : Value).ownBlock ∧ some k_ ≠ (.slice Ao21 t381.length co21 : Value).ownBlock) v405 t404) ∧ (Kd.R (Kd.int .u64) 33 w' w.heap.size (fun k_ => some k_ ≠ (v391 : Value).ownBlock ∧ some k_ ≠ (.slice Ao52 t396.length co52 : Value).ownBlock ∧ some k_ ≠ (v405 : Value).ownBlock ∧ some k_ ≠ (.slice Ao80 t418.length co80 : Value).ownBlock ∧ some k_ ≠ (s_.1 : Value).ownBlock ∧ some k_ ≠ (s_.2.1 : Value).ownBlock ∧ some k_ ≠ (s_.2.2.1 : Value).ownBlock ∧ some k_ ≠ (.slice Ao16 t374.length co16 : Value).ownBlock ∧ some k_ ≠ (.slice Ao21 t381.length co21 : Value).ownBlock) (.slice Ao64 t410.length co64) t410) ∧ (Kd.R (Kd.int .u64) 33 w' w.heap.size (fun k_ => some k_ ≠ (v391 : Value).ownBlock ∧ some k_ ≠ (.slice Ao52 t396.length co52 : Value).ownBlock ∧ some k_ ≠ (v405 : Value).ownBlock ∧ some k_ ≠ (.slice Ao64 t410.length co64 : Value).ownBlock ∧ some k_ ≠ (s_.1 : Value).ownBlock ∧ some k_ ≠ (s_.2.1 : Value).ownBlock ∧ some k_ ≠ (s_.2.2.1 : Value).ownBlock ∧ some k_ ≠ (.slice Ao16 t374.length co16 : Value).ownBlock ∧ some k_ ≠ (.slice Ao21 t381.length co21 : Value).ownBlock) (.slice Ao80 t418.length co80) t418) ∧ (Kd.R (Kd.int .u64) 33 w' w.heap.size (fun k_ => some k_ ≠ (v391 : Value).ownBlock ∧ some k_ ≠ (.slice Ao52 t396.length co52 : Value).ownBlock ∧ some k_ ≠ (v405 : Value).ownBlock ∧ some k_ ≠ (.slice Ao64 t410.length co64 : Value).ownBlock ∧ some k_ ≠ (.slice Ao80 t418.length co80 : Value).ownBlock ∧ some k_ ≠ (s_.2.1 : Value).ownBlock ∧ some k_ ≠ (s_.2.2.1 : Value).ownBlock ∧ some k_ ≠ (.slice Ao16 t374.length co16 : Value).ownBlock ∧ some k_ ≠ (.slice Ao21 t381.length co21 : Value).ownBlock) s_.1 t426) ∧ (Kd.R (Kd.int .u64) 33 w' w.heap.size (fun k_ => some k_ ≠ (v391 : Value).ownBlock ∧ some k_ ≠ (.slice Ao52 t396.length co52 : Value).ownBlock ∧ some k_ ≠ (v405 : Value).ownBlock ∧ some k_ ≠ (.slice Ao64 t410.length co64 : Value).ownBlock ∧ some k_ ≠ (.slice Ao80 t418.length co80 : Value).ownBlock ∧ some k_ ≠ (s_.1 : Value).ownBlock ∧ some k_ ≠ (s_.2.2.1 : Value).ownBlock ∧ some k_ ≠ (.slice Ao16 t374.length co16 : Value).ownBlock ∧ some k_ ≠ (.slice Ao21 t381.length co21 : Value).ownBlock) s_.2.1 t432) ∧ (Kd.R (Kd.int .u64) 33 w' w.heap.size (fun k_ => some k_ ≠ (v391 : Value).ownBlock ∧ some k_ ≠ (.slice Ao52 t396.length co52 : Value).ownBlock ∧ some k_ ≠ (v405 : Value).ownBlock ∧ some k_ ≠ (.slice Ao64 t410.length co64 : Value).ownBlock ∧ some k_ ≠ (.slice Ao80 t418.length co80 : Value).ownBlock ∧ some k_ ≠ (s_.1 : Value).ownBlock ∧ some k_ ≠ (s_.2.1 : Value).ownBlock ∧ some k_ ≠ (.slice Ao16 t374.length co16 : Value).ownBlock ∧ some k_ ≠ (.slice Ao21 t381.length co21 : Value).ownBlock) s_.2.2.1 t438) ∧ (Kd.R (Kd.int .u64) 33 w' w.heap.size (fun k_ => some k_ ≠ (v391 : Value).ownBlock ∧ some k_ ≠ (.slice Ao52 t396.length co52 : Value).ownBlock ∧ some k_ ≠ (v405 : Value).ownBlock ∧ some k_ ≠ (.slice Ao64 t410.length co64 : Value).ownBlock ∧ some k_ ≠ (.slice Ao80 t418.length co80 : Value).ownBlock ∧ some k_ ≠ (s_.1 : Value).ownBlock ∧ some k_ ≠ (s_.2.1 : Value).ownBlock ∧ some k_ ≠ (s_.2.2.1 : Value).ownBlock ∧ some k_ ≠ (.slice Ao21 t381.length co21 : Value).ownBlock) (.slice Ao16 t374.length co16) t374) ∧ (Kd.R (Kd.int .u64) 33 w' w.heap.size (fun k_ => some k_ ≠ (v391 : Value).ownBlock ∧ some k_ ≠ (.slice Ao52 t396.length co52 : Value).ownBlock ∧ some k_ ≠ (v405 : Value).ownBlock ∧ some k_ ≠ (.slice Ao64 t410.length co64 : Value).ownBlock ∧ some k_ ≠ (.slice Ao80 t418.length co80 : Value).ownBlock ∧ some k_ ≠ (s_.1 : Value).ownBlock ∧ some k_ ≠ (s_.2.1 : Value).ownBlock ∧ some k_ ≠ (s_.2.2.1 : Value).ownBlock ∧ some k_ ≠ (.slice Ao16 t374.length co16 : Value).ownBlock) (.slice Ao21 t381.length co21) t381) ∧ (w'.heap[gb377]? = some (.cells #[.int .i64 t371, .int .i64 t372, .int .i64 t373, .slice Ao16 t374.length co16] 25 (0, 0))) ∧ (w'.heap[gb384]? = some (.cells #[.int .i64 t378, .int .i64 t379, .int .i64 t380, .slice Ao21 t381.length co21] 25 (0, 0))) ∧ (w'.heap[gb400]? = some (.cells #[.int .i64 t393, .int .i64 t394, .int .i64 t395, .slice Ao52 t396.length co52] 25 (0, 0))) ∧ (w'.heap[gb414]? = some (.cells #[.int .i64 t407, .int .i64 t408, .int .i64 t409, .slice Ao64 t410.length co64] 25 (0, 0))) ∧ (w'.heap[gb422]? = some (.cells #[.int .i64 t415, .int .i64 t416, .int .i64 t417, .slice Ao80 t418.length co80] 25 (0, 0))) ∧ (w'.heap[s_.2.2.2]? = some (.cells #[.int .i64 0, .int .i64 0, .int .i64 0, .slice none 0 0] 25 (0, 0))) ∧ (w.heap.size ≤ s_.2.2.2) ∧ (w.heap.size ≤ s_.2.2.2) ∧ (gb377 ≠ s_.2.2.2) ∧ (s_.2.2.2 ≠ gb377) ∧ (gb384 ≠ s_.2.2.2) ∧ (s_.2.2.2 ≠ gb384) ∧ (gb400 ≠ s_.2.2.2) ∧ (s_.2.2.2 ≠ gb400) ∧ (gb414 ≠ s_.2.2.2) ∧ (s_.2.2.2 ≠ gb414) ∧ (gb422 ≠ s_.2.2.2) ∧ (s_.2.2.2 ≠ gb422) ∧ (Below w.heap.size w w')) ?_ ?_
     rotate_left
     ·
      intro hCont
      refine two_ (i := 1) (j := 8) (Ni := some 69) (Nj := some 17) #[true, true, true, false, false, false, false, false, false, false, false] #[true, false, true, false, false, false, false, false, true, false, false] rfl rfl rfl rfl (two_of HT_.out (by kernel_rfl)) (by decide) (by decide) (fun K hK => ?_) (fun K hK => ?_)
      ·
       skip
       refine goes_ Try.func10 (by kernel_rfl) rfl #[.agg #[.int .i64 t378, .int .i64 t379, .int .i64 t380, .slice Ao21 t381.length co21]] (by rfl) rfl rfl ga ?_
       with_reducible refine (mat_Matrix_Turn.calls kj10 t378 t379 t380 _ _ t381 t423 t424 t425 t426 _ ?side1 ?side2 A39.out).mono ?_
       (case side1 => exact ks HO_385003)
       (case side2 => exact (Kd.R_reads' HO_385003.out).2.1)
       rintro e w83 ⟨v427, rfl, ho0, hb⟩
       refine ⟨_, rfl, ?_⟩
       refine ax14 (Kd.R_elder' (kr HO_378003) (Kd.R_base ho0) hb) (Kd.R_elder' (kr HO_385003) (Kd.R_base ho0) hb) (Kd.R_elder' (kr HO392) (Kd.R_base ho0) hb) (Kd.R_elder' (kr HO398) (Kd.R_base ho0) hb) (Kd.R_elder' (kr HO406) (Kd.R_base ho0) hb) (Kd.R_elder' (kr HO412) (Kd.R_base ho0) hb) (Kd.R_elder' (kr HO420) (Kd.R_base ho0) hb) (Kd.R_lower (Kd.R_new' (Kd.R_new' (Kd.R_new' (Kd.R_new' (Kd.R_new' (Kd.R_new' (Kd.R_new' ho0 (Kd.R_lt (kr HO_378003))) (Kd.R_lt (kr HO_385003))) (Kd.R_lt (kr HO392))) (Kd.R_lt (kr HO398))) (Kd.R_lt (kr HO406))) (Kd.R_lt (kr HO412))) (Kd.R_lt (kr HO420))) (below_size bes)) (bb BK377 hb) (bb BK384 hb) (bb BK400 hb) (bb BK414 hb) (bb BK422 hb) (below_step bes hb) ?_
       clear HO_378003 HO_385003 HO392 HO398 HO406 HO412 HO420 BK377 BK384 BK400 BK414 BK422 HB
       intro HO_378003 HO_385003 HO392 HO398 HO406 HO412 HO420 HO428 BK377 BK384 BK400 BK414 BK422 HB
       (try clear hb)
       (try clear hb2)
       (try clear hk)
       (try clear hi)
       (try clear ho0)
       refine hK.out _ _ ⟨bk BK384 0, bk BK384 1, bk BK384 2, bk BK384 3, bk BK377 0, bk BK377 1, bk BK377 2, bk BK377 3⟩ (fun hHeld => ?_)
       clear hK K
       refine no 69 ?_
       refine two_ (i := 3) (j := 8) (Ni := some 71) (Nj := some 17) #[true, true, true, true, false, false, false, false, false, false, false] #[true, true, true, false, false, false, false, false, true, false, false] rfl rfl rfl rfl (two_of HT_.out (by kernel_rfl)) (by decide) (by decide) (fun K hK => ?_) (fun K hK => ?_)
       ·
        skip
        refine goes_ Try.func10 (by kernel_rfl) rfl #[.agg #[.int .i64 t371, .int .i64 t372, .int .i64 t373, .slice Ao16 t374.length co16]] (by rfl) rfl rfl ga ?_
        with_reducible refine (mat_Matrix_Turn.calls kj10 t371 t372 t373 _ _ t374 t429 t430 t431 t432 _ ?side1 ?side2 A40.out).mono ?_
        (case side1 => exact ks HO_378003)
        (case side2 => exact (Kd.R_reads' HO_378003.out).2.1)
        rintro e w84 ⟨v433, rfl, ho0, hb⟩
        refine ⟨_, rfl, ?_⟩
        refine ax15 (Kd.R_elder' (kr HO_378003) (Kd.R_base ho0) hb) (Kd.R_elder' (kr HO_385003) (Kd.R_base ho0) hb) (Kd.R_elder' (kr HO392) (Kd.R_base ho0) hb) (Kd.R_elder' (kr HO398) (Kd.R_base ho0) hb) (Kd.R_elder' (kr HO406) (Kd.R_base ho0) hb) (Kd.R_elder' (kr HO412) (Kd.R_base ho0) hb) (Kd.R_elder' (kr HO420) (Kd.R_base ho0) hb) (Kd.R_elder' (kr HO428) (Kd.R_base ho0) hb) (Kd.R_lower (Kd.R_new' (Kd.R_new' (Kd.R_new' (Kd.R_new' (Kd.R_new' (Kd.R_new' (Kd.R_new' (Kd.R_new' ho0 (Kd.R_lt (kr HO_378003))) (Kd.R_lt (kr HO_385003))) (Kd.R_lt (kr HO392))) (Kd.R_lt (kr HO398))) (Kd.R_lt (kr HO406))) (Kd.R_lt (kr HO412))) (Kd.R_lt (kr HO420))) (Kd.R_lt (kr HO428))) (below_size bes)) (bb BK377 hb) (bb BK384 hb) (bb BK400 hb) (bb BK414 hb) (bb BK422 hb) (below_step bes hb) ?_
        clear HO_378003 HO_385003 HO392 HO398 HO406 HO412 HO420 HO428 BK377 BK384 BK400 BK414 BK422 HB
        intro HO_378003 HO_385003 HO392 HO398 HO406 HO412 HO420 HO428 HO434 BK377 BK384 BK400 BK414 BK422 HB
        (try clear hb)
        (try clear hb2)
        (try clear hk)
        (try clear hi)
        (try clear ho0)
        obtain ⟨Ao85, co85, eo85⟩ := Kd.R_slice HO428.out
        (first | subst eo85 | (injection eo85 with f1_ f2_ f3_; have f4_ := f1_.symm; have f5_ := f3_.symm; clear f1_ f2_ f3_; subst f4_; subst f5_))
        obtain ⟨Ao86, co86, eo86⟩ := Kd.R_slice HO434.out
        (first | subst eo86 | (injection eo86 with f1_ f2_ f3_; have f4_ := f1_.symm; have f5_ := f3_.symm; clear f1_ f2_ f3_; subst f4_; subst f5_))
        refine hK.out _ _ ⟨bk BK384 0, bk BK384 1, bk BK384 2, bk BK384 3, bk BK377 0, bk BK377 1, bk BK377 2, bk BK377 3⟩ (fun hHeld => ?_)
        clear hK K
        refine no 71 ?_
        refine two_ (i := 4) (j := 8) (Ni := some 72) (Nj := some 17) #[true, true, true, true, true, false, false, false, false, false, false] #[true, true, true, true, false, false, false, false, true, false, false] rfl rfl rfl rfl (two_of HT_.out (by kernel_rfl)) (by decide) (by decide) (fun K hK => ?_) (fun K hK => ?_)
        ·
         skip
         refine goes_ Try.func8 (by kernel_rfl) rfl #[.pointer none, .agg #[.int .i64 t423, .int .i64 t424, .int .i64 t425, .slice Ao85 t426.length co85], .agg #[.int .i64 t429, .int .i64 t430, .int .i64 t431, .slice Ao86 t432.length co86]] (by rfl) rfl rfl ga ?_
         with_reducible refine (mul_Gemm_nil.calls kj10  t423 t424 t425 _ _ t426 t429 t430 t431 _ _ t432 t435 t436 t437 t438 t441 _ ?side1 ?side2 ?side3 ?side4 A41.out).mono ?_
         (case side1 => exact ks HO428)
         (case side2 => exact (Kd.R_reads' HO428.out).2.1)
         (case side3 => exact ks HO434)
         (case side4 => exact (Kd.R_reads' HO434.out).2.1)
         rintro e w87 ⟨v439, rfl, ho0, hb⟩
         refine ⟨_, rfl, ?_⟩
         refine ax16 (Kd.R_elder' (kr HO_378003) (Kd.R_base ho0) hb) (Kd.R_elder' (kr HO_385003) (Kd.R_base ho0) hb) (Kd.R_elder' (kr HO392) (Kd.R_base ho0) hb) (Kd.R_elder' (kr HO398) (Kd.R_base ho0) hb) (Kd.R_elder' (kr HO406) (Kd.R_base ho0) hb) (Kd.R_elder' (kr HO412) (Kd.R_base ho0) hb) (Kd.R_elder' (kr HO420) (Kd.R_base ho0) hb) (Kd.R_elder' (kr HO428) (Kd.R_base ho0) hb) (Kd.R_elder' (kr HO434) (Kd.R_base ho0) hb) (Kd.R_lower (Kd.R_new' (Kd.R_new' (Kd.R_new' (Kd.R_new' (Kd.R_new' (Kd.R_new' (Kd.R_new' (Kd.R_new' (Kd.R_new' ho0 (Kd.R_lt (kr HO_378003))) (Kd.R_lt (kr HO_385003))) (Kd.R_lt (kr HO392))) (Kd.R_lt (kr HO398))) (Kd.R_lt (kr HO406))) (Kd.R_lt (kr HO412))) (Kd.R_lt (kr HO420))) (Kd.R_lt (kr HO428))) (Kd.R_lt (kr HO434))) (below_size bes)) (bb BK377 hb) (bb BK384 hb) (bb BK400 hb) (bb BK414 hb) (bb BK422 hb) (below_step bes hb) ?_
         clear HO_378003 HO_385003 HO392 HO398 HO406 HO412 HO420 HO428 HO434 BK377 BK384 BK400 BK414 BK422 HB
         intro HO_378003 HO_385003 HO392 HO398 HO406 HO412 HO420 HO428 HO434 HO440 BK377 BK384 BK400 BK414 BK422 HB
         (try clear hb)
         (try clear hb2)
         (try clear hk)
         (try clear hi)
         (try clear ho0)
         refine hK.out _ _ ⟨bk BK384 0, bk BK384 1, bk BK384 2, bk BK384 3, bk BK377 0, bk BK377 1, bk BK377 2, bk BK377 3⟩ (fun hHeld => ?_)
         clear hK K
         refine no 72 ?_
         refine pu 5 67 (lm 11 63) HT_ ?_
         refine pu 6 73 (lm 11 127) HT_ ?_
         refine pu 7 74 (lm 11 255) HT_ ?_
         refine on 8 (some 17) (lm 11 511) HT_ (fun K hK => ?_)
         refine box_step ?hg (N := 17) ?hd (cs := #[.int .i64 0, .int .i64 0, .int .i64 0, .slice none 0 0]) (t := 25) ?hr ?_; (case hd => rfl); (case hg => rfl); (case hr => first | (go_simp; done) | (go_simp; rfl))
         intro gb442 hg w88 hbox hb
         refine ax29 (Kd.R_below (kr HO_378003) hb) (Kd.R_below (kr HO_385003) hb) (Kd.R_below (kr HO392) hb) (Kd.R_below (kr HO398) hb) (Kd.R_below (kr HO406) hb) (Kd.R_below (kr HO412) hb) (Kd.R_below (kr HO420) hb) (Kd.R_below (kr HO428) hb) (Kd.R_below (kr HO434) hb) (Kd.R_below (kr HO440) hb) (bb BK377 hb) (bb BK384 hb) (bb BK400 hb) (bb BK414 hb) (bb BK422 hb) (below_step bes hb) hbox ((ge hg : w.heap.size ≤ gb442)) ((ge hg : w.heap.size ≤ gb442)) (nl hg BK377) (ng hg BK377) (nl hg BK384) (ng hg BK384) (nl hg BK400) (ng hg BK400) (nl hg BK414) (ng hg BK414) (nl hg BK422) (ng hg BK422) ?_
         clear HO_378003 HO_385003 HO392 HO398 HO406 HO412 HO420 HO428 HO434 HO440 BK377 BK384 BK400 BK414 BK422 HB
         intro HO_378003 HO_385003 HO392 HO398 HO406 HO412 HO420 HO428 HO434 HO440 BK377 BK384 BK400 BK414 BK422 HB BK442 GW442 GE442 NB377_442 NB442_377 NB384_442 NB442_384 NB400_442 NB442_400 NB414_442 NB442_414 NB422_442 NB442_422
         clear hb hbox hg
         refine hK.out _ _ ⟨bk BK384 0, bk BK384 1, bk BK384 2, bk BK384 3, bk BK377 0, bk BK377 1, bk BK377 2, bk BK377 3⟩ (fun hHeld => ?_)
         clear hK K
         refine no 17 ?_
         exact nP (hCont (.slice Ao85 t426.length co85, .slice Ao86 t432.length co86, v439, gb442) _ ⟨hHeld, (km HO392 fun _ hk => ⟨hk.1.1.1.2.2.1, ⟨hk.1.1.1.2.2.2.1, ⟨hk.1.1.1.2.2.2.2.1, ⟨hk.1.1.1.2.2.2.2.2, ⟨hk.1.1.2, ⟨hk.1.2, ⟨hk.2, ⟨hk.1.1.1.1, hk.1.1.1.2.1⟩⟩⟩⟩⟩⟩⟩⟩), (km HO398 fun _ hk => ⟨hk.1.1.1.2.2.1, ⟨hk.1.1.1.2.2.2.1, ⟨hk.1.1.1.2.2.2.2.1, ⟨hk.1.1.1.2.2.2.2.2, ⟨hk.1.1.2, ⟨hk.1.2, ⟨hk.2, ⟨hk.1.1.1.1, hk.1.1.1.2.1⟩⟩⟩⟩⟩⟩⟩⟩), (km HO406 fun _ hk => ⟨hk.1.1.1.2.2.1, ⟨hk.1.1.1.2.2.2.1, ⟨hk.1.1.1.2.2.2.2.1, ⟨hk.1.1.1.2.2.2.2.2, ⟨hk.1.1.2, ⟨hk.1.2, ⟨hk.2, ⟨hk.1.1.1.1, hk.1.1.1.2.1⟩⟩⟩⟩⟩⟩⟩⟩), (km HO412 fun _ hk => ⟨hk.1.1.1.2.2.1, ⟨hk.1.1.1.2.2.2.1, ⟨hk.1.1.1.2.2.2.2.1, ⟨hk.1.1.1.2.2.2.2.2, ⟨hk.1.1.2, ⟨hk.1.2, ⟨hk.2, ⟨hk.1.1.1.1, hk.1.1.1.2.1⟩⟩⟩⟩⟩⟩⟩⟩), (km HO420 fun _ hk => ⟨hk.1.1.1.2.2.1, ⟨hk.1.1.1.2.2.2.1, ⟨hk.1.1.1.2.2.2.2.1, ⟨hk.1.1.1.2.2.2.2.2, ⟨hk.1.1.2, ⟨hk.1.2, ⟨hk.2, ⟨hk.1.1.1.1, hk.1.1.1.2.1⟩⟩⟩⟩⟩⟩⟩⟩), (km HO428 fun _ hk => ⟨hk.1.1.1.1.1.1.2, ⟨hk.1.1.1.1.1.2, ⟨hk.1.1.1.1.2, ⟨hk.1.1.1.2, ⟨hk.1.1.2, ⟨hk.1.2, ⟨hk.2, ⟨hk.1.1.1.1.1.1.1.1.2, hk.1.1.1.1.1.1.1.2⟩⟩⟩⟩⟩⟩⟩⟩), (km HO434 fun _ hk => ⟨hk.1.1.1.1.1.1.2, ⟨hk.1.1.1.1.1.2, ⟨hk.1.1.1.1.2, ⟨hk.1.1.1.2, ⟨hk.1.1.2, ⟨hk.1.2, ⟨hk.2, ⟨hk.1.1.1.1.1.1.1.1.2, hk.1.1.1.1.1.1.1.2⟩⟩⟩⟩⟩⟩⟩⟩), (km HO440 fun _ hk => ⟨hk.1.1.1.1.1.1.2, ⟨hk.1.1.1.1.1.2, ⟨hk.1.1.1.1.2, ⟨hk.1.1.1.2, ⟨hk.1.1.2, ⟨hk.1.2, ⟨hk.2, ⟨hk.1.1.1.1.1.1.1.1.2, hk.1.1.1.1.1.1.1.2⟩⟩⟩⟩⟩⟩⟩⟩), (km HO_378003 fun _ hk => ⟨hk.1.1.1.2.1, ⟨hk.1.1.1.2.2.1, ⟨hk.1.1.1.2.2.2.1, ⟨hk.1.1.1.2.2.2.2.1, ⟨hk.1.1.1.2.2.2.2.2, ⟨hk.1.1.2, ⟨hk.1.2, ⟨hk.2, hk.1.1.1.1⟩⟩⟩⟩⟩⟩⟩⟩), (km HO_385003 fun _ hk => ⟨hk.1.1.1.2.1, ⟨hk.1.1.1.2.2.1, ⟨hk.1.1.1.2.2.2.1, ⟨hk.1.1.1.2.2.2.2.1, ⟨hk.1.1.1.2.2.2.2.2, ⟨hk.1.1.2, ⟨hk.1.2, ⟨hk.2, hk.1.1.1.1⟩⟩⟩⟩⟩⟩⟩⟩), (kb BK377), (kb BK384), (kb BK400), (kb BK414), (kb BK422), (kb BK442), GW442.out, GE442.out, NB377_442.out, NB442_377.out, NB384_442.out, NB442_384.out, NB400_442.out, NB442_400.out, NB414_442.out, NB442_414.out, NB422_442.out, NB442_422.out, bes⟩)
        ·
         skip
         refine box_step ?hg (N := 17) ?hd (cs := #[.int .i64 0, .int .i64 0, .int .i64 0, .slice none 0 0]) (t := 25) ?hr ?_; (case hd => rfl); (case hg => rfl); (case hr => first | (go_simp; done) | (go_simp; rfl))
         intro gb442 hg w85 hbox hb
         refine ax28 (Kd.R_below (kr HO_378003) hb) (Kd.R_below (kr HO_385003) hb) (Kd.R_below (kr HO392) hb) (Kd.R_below (kr HO398) hb) (Kd.R_below (kr HO406) hb) (Kd.R_below (kr HO412) hb) (Kd.R_below (kr HO420) hb) (Kd.R_below (kr HO428) hb) (Kd.R_below (kr HO434) hb) (bb BK377 hb) (bb BK384 hb) (bb BK400 hb) (bb BK414 hb) (bb BK422 hb) (below_step bes hb) hbox ((ge hg : w.heap.size ≤ gb442)) ((ge hg : w.heap.size ≤ gb442)) (nl hg BK377) (ng hg BK377) (nl hg BK384) (ng hg BK384) (nl hg BK400) (ng hg BK400) (nl hg BK414) (ng hg BK414) (nl hg BK422) (ng hg BK422) ?_
         clear HO_378003 HO_385003 HO392 HO398 HO406 HO412 HO420 HO428 HO434 BK377 BK384 BK400 BK414 BK422 HB
         intro HO_378003 HO_385003 HO392 HO398 HO406 HO412 HO420 HO428 HO434 BK377 BK384 BK400 BK414 BK422 HB BK442 GW442 GE442 NB377_442 NB442_377 NB384_442 NB442_384 NB400_442 NB442_400 NB414_442 NB442_414 NB422_442 NB442_422
         clear hb hbox hg
         obtain ⟨Ao86, co86, eo86⟩ := Kd.R_slice HO428.out
         (first | subst eo86 | (injection eo86 with f1_ f2_ f3_; have f4_ := f1_.symm; have f5_ := f3_.symm; clear f1_ f2_ f3_; subst f4_; subst f5_))
         obtain ⟨Ao87, co87, eo87⟩ := Kd.R_slice HO434.out
         (first | subst eo87 | (injection eo87 with f1_ f2_ f3_; have f4_ := f1_.symm; have f5_ := f3_.symm; clear f1_ f2_ f3_; subst f4_; subst f5_))
         refine hK.out _ _ ⟨bk BK384 0, bk BK384 1, bk BK384 2, bk BK384 3, bk BK377 0, bk BK377 1, bk BK377 2, bk BK377 3⟩ (fun hHeld => ?_)
         clear hK K
         refine no 17 ?_
         refine on 4 (some 72) (lm 11 287) HT_ (fun K hK => ?_)
         refine goes_ Try.func8 (by kernel_rfl) rfl #[.pointer none, .agg #[.int .i64 t423, .int .i64 t424, .int .i64 t425, .slice Ao86 t426.length co86], .agg #[.int .i64 t429, .int .i64 t430, .int .i64 t431, .slice Ao87 t432.length co87]] (by rfl) rfl rfl ga ?_
         with_reducible refine (mul_Gemm_nil.calls kj10  t423 t424 t425 _ _ t426 t429 t430 t431 _ _ t432 t435 t436 t437 t438 t441 _ ?side1 ?side2 ?side3 ?side4 A41.out).mono ?_
         (case side1 => exact ks HO428)
         (case side2 => exact (Kd.R_reads' HO428.out).2.1)
         (case side3 => exact ks HO434)
         (case side4 => exact (Kd.R_reads' HO434.out).2.1)
         rintro e w88 ⟨v439, rfl, ho0, hb⟩
         refine ⟨_, rfl, ?_⟩
         refine ax17 (Kd.R_elder' (kr HO_378003) (Kd.R_base ho0) hb) (Kd.R_elder' (kr HO_385003) (Kd.R_base ho0) hb) (Kd.R_elder' (kr HO392) (Kd.R_base ho0) hb) (Kd.R_elder' (kr HO398) (Kd.R_base ho0) hb) (Kd.R_elder' (kr HO406) (Kd.R_base ho0) hb) (Kd.R_elder' (kr HO412) (Kd.R_base ho0) hb) (Kd.R_elder' (kr HO420) (Kd.R_base ho0) hb) (Kd.R_elder' (kr HO428) (Kd.R_base ho0) hb) (Kd.R_elder' (kr HO434) (Kd.R_base ho0) hb) (Kd.R_lower (Kd.R_new' (Kd.R_new' (Kd.R_new' (Kd.R_new' (Kd.R_new' (Kd.R_new' (Kd.R_new' (Kd.R_new' (Kd.R_new' ho0 (Kd.R_lt (kr HO_378003))) (Kd.R_lt (kr HO_385003))) (Kd.R_lt (kr HO392))) (Kd.R_lt (kr HO398))) (Kd.R_lt (kr HO406))) (Kd.R_lt (kr HO412))) (Kd.R_lt (kr HO420))) (Kd.R_lt (kr HO428))) (Kd.R_lt (kr HO434))) (below_size bes)) (bb BK377 hb) (bb BK384 hb) (bb BK400 hb) (bb BK414 hb) (bb BK422 hb) (bb BK442 hb) (below_step bes hb) ?_
         clear HO_378003 HO_385003 HO392 HO398 HO406 HO412 HO420 HO428 HO434 BK377 BK384 BK400 BK414 BK422 BK442 HB
         intro HO_378003 HO_385003 HO392 HO398 HO406 HO412 HO420 HO428 HO434 HO440 BK377 BK384 BK400 BK414 BK422 BK442 HB
         (try clear hb)
         (try clear hb2)
         (try clear hk)
         (try clear hi)
         (try clear ho0)
         refine hK.out _ _ ⟨bk BK384 0, bk BK384 1, bk BK384 2, bk BK384 3, bk BK377 0, bk BK377 1, bk BK377 2, bk BK377 3⟩ (fun hHeld => ?_)
         clear hK K
         refine no 72 ?_
         refine pu 5 67 (lm 11 319) HT_ ?_
         refine pu 6 73 (lm 11 383) HT_ ?_
         refine pu 7 74 (lm 11 511) HT_ ?_
         exact nP (hCont (.slice Ao86 t426.length co86, .slice Ao87 t432.length co87, v439, gb442) _ ⟨hHeld, (km HO392 fun _ hk => ⟨hk.1.1.1.2.2.1, ⟨hk.1.1.1.2.2.2.1, ⟨hk.1.1.1.2.2.2.2.1, ⟨hk.1.1.1.2.2.2.2.2, ⟨hk.1.1.2, ⟨hk.1.2, ⟨hk.2, ⟨hk.1.1.1.1, hk.1.1.1.2.1⟩⟩⟩⟩⟩⟩⟩⟩), (km HO398 fun _ hk => ⟨hk.1.1.1.2.2.1, ⟨hk.1.1.1.2.2.2.1, ⟨hk.1.1.1.2.2.2.2.1, ⟨hk.1.1.1.2.2.2.2.2, ⟨hk.1.1.2, ⟨hk.1.2, ⟨hk.2, ⟨hk.1.1.1.1, hk.1.1.1.2.1⟩⟩⟩⟩⟩⟩⟩⟩), (km HO406 fun _ hk => ⟨hk.1.1.1.2.2.1, ⟨hk.1.1.1.2.2.2.1, ⟨hk.1.1.1.2.2.2.2.1, ⟨hk.1.1.1.2.2.2.2.2, ⟨hk.1.1.2, ⟨hk.1.2, ⟨hk.2, ⟨hk.1.1.1.1, hk.1.1.1.2.1⟩⟩⟩⟩⟩⟩⟩⟩), (km HO412 fun _ hk => ⟨hk.1.1.1.2.2.1, ⟨hk.1.1.1.2.2.2.1, ⟨hk.1.1.1.2.2.2.2.1, ⟨hk.1.1.1.2.2.2.2.2, ⟨hk.1.1.2, ⟨hk.1.2, ⟨hk.2, ⟨hk.1.1.1.1, hk.1.1.1.2.1⟩⟩⟩⟩⟩⟩⟩⟩), (km HO420 fun _ hk => ⟨hk.1.1.1.2.2.1, ⟨hk.1.1.1.2.2.2.1, ⟨hk.1.1.1.2.2.2.2.1, ⟨hk.1.1.1.2.2.2.2.2, ⟨hk.1.1.2, ⟨hk.1.2, ⟨hk.2, ⟨hk.1.1.1.1, hk.1.1.1.2.1⟩⟩⟩⟩⟩⟩⟩⟩), (km HO428 fun _ hk => ⟨hk.1.1.1.1.1.1.2, ⟨hk.1.1.1.1.1.2, ⟨hk.1.1.1.1.2, ⟨hk.1.1.1.2, ⟨hk.1.1.2, ⟨hk.1.2, ⟨hk.2, ⟨hk.1.1.1.1.1.1.1.1.2, hk.1.1.1.1.1.1.1.2⟩⟩⟩⟩⟩⟩⟩⟩), (km HO434 fun _ hk => ⟨hk.1.1.1.1.1.1.2, ⟨hk.1.1.1.1.1.2, ⟨hk.1.1.1.1.2, ⟨hk.1.1.1.2, ⟨hk.1.1.2, ⟨hk.1.2, ⟨hk.2, ⟨hk.1.1.1.1.1.1.1.1.2, hk.1.1.1.1.1.1.1.2⟩⟩⟩⟩⟩⟩⟩⟩), (km HO440 fun _ hk => ⟨hk.1.1.1.1.1.1.2, ⟨hk.1.1.1.1.1.2, ⟨hk.1.1.1.1.2, ⟨hk.1.1.1.2, ⟨hk.1.1.2, ⟨hk.1.2, ⟨hk.2, ⟨hk.1.1.1.1.1.1.1.1.2, hk.1.1.1.1.1.1.1.2⟩⟩⟩⟩⟩⟩⟩⟩), (km HO_378003 fun _ hk => ⟨hk.1.1.1.2.1, ⟨hk.1.1.1.2.2.1, ⟨hk.1.1.1.2.2.2.1, ⟨hk.1.1.1.2.2.2.2.1, ⟨hk.1.1.1.2.2.2.2.2, ⟨hk.1.1.2, ⟨hk.1.2, ⟨hk.2, hk.1.1.1.1⟩⟩⟩⟩⟩⟩⟩⟩), (km HO_385003 fun _ hk => ⟨hk.1.1.1.2.1, ⟨hk.1.1.1.2.2.1, ⟨hk.1.1.1.2.2.2.1, ⟨hk.1.1.1.2.2.2.2.1, ⟨hk.1.1.1.2.2.2.2.2, ⟨hk.1.1.2, ⟨hk.1.2, ⟨hk.2, hk.1.1.1.1⟩⟩⟩⟩⟩⟩⟩⟩), (kb BK377), (kb BK384), (kb BK400), (kb BK414), (kb BK422), (kb BK442), GW442.out, GE442.out, NB377_442.out, NB442_377.out, NB384_442.out, NB442_384.out, NB400_442.out, NB442_400.out, NB414_442.out, NB442_414.out, NB422_442.out, NB442_422.out, bes⟩)
       ·
        skip
        refine box_step ?hg (N := 17) ?hd (cs := #[.int .i64 0, .int .i64 0, .int .i64 0, .slice none 0 0]) (t := 25) ?hr ?_; (case hd => rfl); (case hg => rfl); (case hr => first | (go_simp; done) | (go_simp; rfl))
        intro gb442 hg w84 hbox hb
        refine ax27 (Kd.R_below (kr HO_378003) hb) (Kd.R_below (kr HO_385003) hb) (Kd.R_below (kr HO392) hb) (Kd.R_below (kr HO398) hb) (Kd.R_below (kr HO406) hb) (Kd.R_below (kr HO412) hb) (Kd.R_below (kr HO420) hb) (Kd.R_below (kr HO428) hb) (bb BK377 hb) (bb BK384 hb) (bb BK400 hb) (bb BK414 hb) (bb BK422 hb) (below_step bes hb) hbox ((ge hg : w.heap.size ≤ gb442)) ((ge hg : w.heap.size ≤ gb442)) (nl hg BK377) (ng hg BK377) (nl hg BK384) (ng hg BK384) (nl hg BK400) (ng hg BK400) (nl hg BK414) (ng hg BK414) (nl hg BK422) (ng hg BK422) ?_
        clear HO_378003 HO_385003 HO392 HO398 HO406 HO412 HO420 HO428 BK377 BK384 BK400 BK414 BK422 HB
        intro HO_378003 HO_385003 HO392 HO398 HO406 HO412 HO420 HO428 BK377 BK384 BK400 BK414 BK422 HB BK442 GW442 GE442 NB377_442 NB442_377 NB384_442 NB442_384 NB400_442 NB442_400 NB414_442 NB442_414 NB422_442 NB442_422
        clear hb hbox hg
        refine hK.out _ _ ⟨bk BK384 0, bk BK384 1, bk BK384 2, bk BK384 3, bk BK377 0, bk BK377 1, bk BK377 2, bk BK377 3⟩ (fun hHeld => ?_)
        clear hK K
        refine no 17 ?_
        refine on 3 (some 71) (lm 11 271) HT_ (fun K hK => ?_)
        refine goes_ Try.func10 (by kernel_rfl) rfl #[.agg #[.int .i64 t371, .int .i64 t372, .int .i64 t373, .slice Ao16 t374.length co16]] (by rfl) rfl rfl ga ?_
        with_reducible refine (mat_Matrix_Turn.calls kj10 t371 t372 t373 _ _ t374 t429 t430 t431 t432 _ ?side1 ?side2 A40.out).mono ?_
        (case side1 => exact ks HO_378003)
        (case side2 => exact (Kd.R_reads' HO_378003.out).2.1)
        rintro e w85 ⟨v433, rfl, ho0, hb⟩
        refine ⟨_, rfl, ?_⟩
        refine ax16 (Kd.R_elder' (kr HO_378003) (Kd.R_base ho0) hb) (Kd.R_elder' (kr HO_385003) (Kd.R_base ho0) hb) (Kd.R_elder' (kr HO392) (Kd.R_base ho0) hb) (Kd.R_elder' (kr HO398) (Kd.R_base ho0) hb) (Kd.R_elder' (kr HO406) (Kd.R_base ho0) hb) (Kd.R_elder' (kr HO412) (Kd.R_base ho0) hb) (Kd.R_elder' (kr HO420) (Kd.R_base ho0) hb) (Kd.R_elder' (kr HO428) (Kd.R_base ho0) hb) (Kd.R_lower (Kd.R_new' (Kd.R_new' (Kd.R_new' (Kd.R_new' (Kd.R_new' (Kd.R_new' (Kd.R_new' (Kd.R_new' ho0 (Kd.R_lt (kr HO_378003))) (Kd.R_lt (kr HO_385003))) (Kd.R_lt (kr HO392))) (Kd.R_lt (kr HO398))) (Kd.R_lt (kr HO406))) (Kd.R_lt (kr HO412))) (Kd.R_lt (kr HO420))) (Kd.R_lt (kr HO428))) (below_size bes)) (bb BK377 hb) (bb BK384 hb) (bb BK400 hb) (bb BK414 hb) (bb BK422 hb) (bb BK442 hb) (below_step bes hb) ?_
        clear HO_378003 HO_385003 HO392 HO398 HO406 HO412 HO420 HO428 BK377 BK384 BK400 BK414 BK422 BK442 HB
        intro HO_378003 HO_385003 HO392 HO398 HO406 HO412 HO420 HO428 HO434 BK377 BK384 BK400 BK414 BK422 BK442 HB
        (try clear hb)
        (try clear hb2)
        (try clear hk)
        (try clear hi)
        (try clear ho0)
        obtain ⟨Ao86, co86, eo86⟩ := Kd.R_slice HO428.out
        (first | subst eo86 | (injection eo86 with f1_ f2_ f3_; have f4_ := f1_.symm; have f5_ := f3_.symm; clear f1_ f2_ f3_; subst f4_; subst f5_))
        obtain ⟨Ao87, co87, eo87⟩ := Kd.R_slice HO434.out
        (first | subst eo87 | (injection eo87 with f1_ f2_ f3_; have f4_ := f1_.symm; have f5_ := f3_.symm; clear f1_ f2_ f3_; subst f4_; subst f5_))
        refine hK.out _ _ ⟨bk BK384 0, bk BK384 1, bk BK384 2, bk BK384 3, bk BK377 0, bk BK377 1, bk BK377 2, bk BK377 3⟩ (fun hHeld => ?_)
        clear hK K
        refine no 71 ?_
        refine on 4 (some 72) (lm 11 287) HT_ (fun K hK => ?_)
        refine goes_ Try.func8 (by kernel_rfl) rfl #[.pointer none, .agg #[.int .i64 t423, .int .i64 t424, .int .i64 t425, .slice Ao86 t426.length co86], .agg #[.int .i64 t429, .int .i64 t430, .int .i64 t431, .slice Ao87 t432.length co87]] (by rfl) rfl rfl ga ?_
        with_reducible refine (mul_Gemm_nil.calls kj10  t423 t424 t425 _ _ t426 t429 t430 t431 _ _ t432 t435 t436 t437 t438 t441 _ ?side1 ?side2 ?side3 ?side4 A41.out).mono ?_
        (case side1 => exact ks HO428)
        (case side2 => exact (Kd.R_reads' HO428.out).2.1)
        (case side3 => exact ks HO434)
        (case side4 => exact (Kd.R_reads' HO434.out).2.1)
        rintro e w88 ⟨v439, rfl, ho0, hb⟩
        refine ⟨_, rfl, ?_⟩
        refine ax17 (Kd.R_elder' (kr HO_378003) (Kd.R_base ho0) hb) (Kd.R_elder' (kr HO_385003) (Kd.R_base ho0) hb) (Kd.R_elder' (kr HO392) (Kd.R_base ho0) hb) (Kd.R_elder' (kr HO398) (Kd.R_base ho0) hb) (Kd.R_elder' (kr HO406) (Kd.R_base ho0) hb) (Kd.R_elder' (kr HO412) (Kd.R_base ho0) hb) (Kd.R_elder' (kr HO420) (Kd.R_base ho0) hb) (Kd.R_elder' (kr HO428) (Kd.R_base ho0) hb) (Kd.R_elder' (kr HO434) (Kd.R_base ho0) hb) (Kd.R_lower (Kd.R_new' (Kd.R_new' (Kd.R_new' (Kd.R_new' (Kd.R_new' (Kd.R_new' (Kd.R_new' (Kd.R_new' (Kd.R_new' ho0 (Kd.R_lt (kr HO_378003))) (Kd.R_lt (kr HO_385003))) (Kd.R_lt (kr HO392))) (Kd.R_lt (kr HO398))) (Kd.R_lt (kr HO406))) (Kd.R_lt (kr HO412))) (Kd.R_lt (kr HO420))) (Kd.R_lt (kr HO428))) (Kd.R_lt (kr HO434))) (below_size bes)) (bb BK377 hb) (bb BK384 hb) (bb BK400 hb) (bb BK414 hb) (bb BK422 hb) (bb BK442 hb) (below_step bes hb) ?_
        clear HO_378003 HO_385003 HO392 HO398 HO406 HO412 HO420 HO428 HO434 BK377 BK384 BK400 BK414 BK422 BK442 HB
        intro HO_378003 HO_385003 HO392 HO398 HO406 HO412 HO420 HO428 HO434 HO440 BK377 BK384 BK400 BK414 BK422 BK442 HB
        (try clear hb)
        (try clear hb2)
        (try clear hk)
        (try clear hi)
        (try clear ho0)
        refine hK.out _ _ ⟨bk BK384 0, bk BK384 1, bk BK384 2, bk BK384 3, bk BK377 0, bk BK377 1, bk BK377 2, bk BK377 3⟩ (fun hHeld => ?_)
        clear hK K
        refine no 72 ?_
        refine pu 5 67 (lm 11 319) HT_ ?_
        refine pu 6 73 (lm 11 383) HT_ ?_
        refine pu 7 74 (lm 11 511) HT_ ?_
        exact nP (hCont (.slice Ao86 t426.length co86, .slice Ao87 t432.length co87, v439, gb442) _ ⟨hHeld, (km HO392 fun _ hk => ⟨hk.1.1.1.2.2.1, ⟨hk.1.1.1.2.2.2.1, ⟨hk.1.1.1.2.2.2.2.1, ⟨hk.1.1.1.2.2.2.2.2, ⟨hk.1.1.2, ⟨hk.1.2, ⟨hk.2, ⟨hk.1.1.1.1, hk.1.1.1.2.1⟩⟩⟩⟩⟩⟩⟩⟩), (km HO398 fun _ hk => ⟨hk.1.1.1.2.2.1, ⟨hk.1.1.1.2.2.2.1, ⟨hk.1.1.1.2.2.2.2.1, ⟨hk.1.1.1.2.2.2.2.2, ⟨hk.1.1.2, ⟨hk.1.2, ⟨hk.2, ⟨hk.1.1.1.1, hk.1.1.1.2.1⟩⟩⟩⟩⟩⟩⟩⟩), (km HO406 fun _ hk => ⟨hk.1.1.1.2.2.1, ⟨hk.1.1.1.2.2.2.1, ⟨hk.1.1.1.2.2.2.2.1, ⟨hk.1.1.1.2.2.2.2.2, ⟨hk.1.1.2, ⟨hk.1.2, ⟨hk.2, ⟨hk.1.1.1.1, hk.1.1.1.2.1⟩⟩⟩⟩⟩⟩⟩⟩), (km HO412 fun _ hk => ⟨hk.1.1.1.2.2.1, ⟨hk.1.1.1.2.2.2.1, ⟨hk.1.1.1.2.2.2.2.1, ⟨hk.1.1.1.2.2.2.2.2, ⟨hk.1.1.2, ⟨hk.1.2, ⟨hk.2, ⟨hk.1.1.1.1, hk.1.1.1.2.1⟩⟩⟩⟩⟩⟩⟩⟩), (km HO420 fun _ hk => ⟨hk.1.1.1.2.2.1, ⟨hk.1.1.1.2.2.2.1, ⟨hk.1.1.1.2.2.2.2.1, ⟨hk.1.1.1.2.2.2.2.2, ⟨hk.1.1.2, ⟨hk.1.2, ⟨hk.2, ⟨hk.1.1.1.1, hk.1.1.1.2.1⟩⟩⟩⟩⟩⟩⟩⟩), (km HO428 fun _ hk => ⟨hk.1.1.1.1.1.1.2, ⟨hk.1.1.1.1.1.2, ⟨hk.1.1.1.1.2, ⟨hk.1.1.1.2, ⟨hk.1.1.2, ⟨hk.1.2, ⟨hk.2, ⟨hk.1.1.1.1.1.1.1.1.2, hk.1.1.1.1.1.1.1.2⟩⟩⟩⟩⟩⟩⟩⟩), (km HO434 fun _ hk => ⟨hk.1.1.1.1.1.1.2, ⟨hk.1.1.1.1.1.2, ⟨hk.1.1.1.1.2, ⟨hk.1.1.1.2, ⟨hk.1.1.2, ⟨hk.1.2, ⟨hk.2, ⟨hk.1.1.1.1.1.1.1.1.2, hk.1.1.1.1.1.1.1.2⟩⟩⟩⟩⟩⟩⟩⟩), (km HO440 fun _ hk => ⟨hk.1.1.1.1.1.1.2, ⟨hk.1.1.1.1.1.2, ⟨hk.1.1.1.1.2, ⟨hk.1.1.1.2, ⟨hk.1.1.2, ⟨hk.1.2, ⟨hk.2, ⟨hk.1.1.1.1.1.1.1.1.2, hk.1.1.1.1.1.1.1.2⟩⟩⟩⟩⟩⟩⟩⟩), (km HO_378003 fun _ hk => ⟨hk.1.1.1.2.1, ⟨hk.1.1.1.2.2.1, ⟨hk.1.1.1.2.2.2.1, ⟨hk.1.1.1.2.2.2.2.1, ⟨hk.1.1.1.2.2.2.2.2, ⟨hk.1.1.2, ⟨hk.1.2, ⟨hk.2, hk.1.1.1.1⟩⟩⟩⟩⟩⟩⟩⟩), (km HO_385003 fun _ hk => ⟨hk.1.1.1.2.1, ⟨hk.1.1.1.2.2.1, ⟨hk.1.1.1.2.2.2.1, ⟨hk.1.1.1.2.2.2.2.1, ⟨hk.1.1.1.2.2.2.2.2, ⟨hk.1.1.2, ⟨hk.1.2, ⟨hk.2, hk.1.1.1.1⟩⟩⟩⟩⟩⟩⟩⟩), (kb BK377), (kb BK384), (kb BK400), (kb BK414), (kb BK422), (kb BK442), GW442.out, GE442.out, NB377_442.out, NB442_377.out, NB384_442.out, NB442_384.out, NB400_442.out, NB442_400.out, NB414_442.out, NB442_414.out, NB422_442.out, NB442_422.out, bes⟩)
      ·
       skip
       refine box_step ?hg (N := 17) ?hd (cs := #[.int .i64 0, .int .i64 0, .int .i64 0, .slice none 0 0]) (t := 25) ?hr ?_; (case hd => rfl); (case hg => rfl); (case hr => first | (go_simp; done) | (go_simp; rfl))
       intro gb442 hg w83 hbox hb
       refine ax26 (Kd.R_below (kr HO_378003) hb) (Kd.R_below (kr HO_385003) hb) (Kd.R_below (kr HO392) hb) (Kd.R_below (kr HO398) hb) (Kd.R_below (kr HO406) hb) (Kd.R_below (kr HO412) hb) (Kd.R_below (kr HO420) hb) (bb BK377 hb) (bb BK384 hb) (bb BK400 hb) (bb BK414 hb) (bb BK422 hb) (below_step bes hb) hbox ((ge hg : w.heap.size ≤ gb442)) ((ge hg : w.heap.size ≤ gb442)) (nl hg BK377) (ng hg BK377) (nl hg BK384) (ng hg BK384) (nl hg BK400) (ng hg BK400) (nl hg BK414) (ng hg BK414) (nl hg BK422) (ng hg BK422) ?_
       clear HO_378003 HO_385003 HO392 HO398 HO406 HO412 HO420 BK377 BK384 BK400 BK414 BK422 HB
       intro HO_378003 HO_385003 HO392 HO398 HO406 HO412 HO420 BK377 BK384 BK400 BK414 BK422 HB BK442 GW442 GE442 NB377_442 NB442_377 NB384_442 NB442_384 NB400_442 NB442_400 NB414_442 NB442_414 NB422_442 NB442_422
       clear hb hbox hg
       refine hK.out _ _ ⟨bk BK384 0, bk BK384 1, bk BK384 2, bk BK384 3, bk BK377 0, bk BK377 1, bk BK377 2, bk BK377 3⟩ (fun hHeld => ?_)
       clear hK K
       refine no 17 ?_
       refine on 1 (some 69) (lm 11 263) HT_ (fun K hK => ?_)
       refine goes_ Try.func10 (by kernel_rfl) rfl #[.agg #[.int .i64 t378, .int .i64 t379, .int .i64 t380, .slice Ao21 t381.length co21]] (by rfl) rfl rfl ga ?_
       with_reducible refine (mat_Matrix_Turn.calls kj10 t378 t379 t380 _ _ t381 t423 t424 t425 t426 _ ?side1 ?side2 A39.out).mono ?_
       (case side1 => exact ks HO_385003)
       (case side2 => exact (Kd.R_reads' HO_385003.out).2.1)
       rintro e w84 ⟨v427, rfl, ho0, hb⟩
       refine ⟨_, rfl, ?_⟩
       refine ax15 (Kd.R_elder' (kr HO_378003) (Kd.R_base ho0) hb) (Kd.R_elder' (kr HO_385003) (Kd.R_base ho0) hb) (Kd.R_elder' (kr HO392) (Kd.R_base ho0) hb) (Kd.R_elder' (kr HO398) (Kd.R_base ho0) hb) (Kd.R_elder' (kr HO406) (Kd.R_base ho0) hb) (Kd.R_elder' (kr HO412) (Kd.R_base ho0) hb) (Kd.R_elder' (kr HO420) (Kd.R_base ho0) hb) (Kd.R_lower (Kd.R_new' (Kd.R_new' (Kd.R_new' (Kd.R_new' (Kd.R_new' (Kd.R_new' (Kd.R_new' ho0 (Kd.R_lt (kr HO_378003))) (Kd.R_lt (kr HO_385003))) (Kd.R_lt (kr HO392))) (Kd.R_lt (kr HO398))) (Kd.R_lt (kr HO406))) (Kd.R_lt (kr HO412))) (Kd.R_lt (kr HO420))) (below_size bes)) (bb BK377 hb) (bb BK384 hb) (bb BK400 hb) (bb BK414 hb) (bb BK422 hb) (bb BK442 hb) (below_step bes hb) ?_
       clear HO_378003 HO_385003 HO392 HO398 HO406 HO412 HO420 BK377 BK384 BK400 BK414 BK422 BK442 HB
       intro HO_378003 HO_385003 HO392 HO398 HO406 HO412 HO420 HO428 BK377 BK384 BK400 BK414 BK422 BK442 HB
       (try clear hb)
       (try clear hb2)
       (try clear hk)
       (try clear hi)
       (try clear ho0)
       refine hK.out _ _ ⟨bk BK384 0, bk BK384 1, bk BK384 2, bk BK384 3, bk BK377 0, bk BK377 1, bk BK377 2, bk BK377 3⟩ (fun hHeld => ?_)
       clear hK K
       refine no 69 ?_
       refine on 3 (some 71) (lm 11 271) HT_ (fun K hK => ?_)
       refine goes_ Try.func10 (by kernel_rfl) rfl #[.agg #[.int .i64 t371, .int .i64 t372, .int .i64 t373, .slice Ao16 t374.length co16]] (by rfl) rfl rfl ga ?_
       with_reducible refine (mat_Matrix_Turn.calls kj10 t371 t372 t373 _ _ t374 t429 t430 t431 t432 _ ?side1 ?side2 A40.out).mono ?_
       (case side1 => exact ks HO_378003)
       (case side2 => exact (Kd.R_reads' HO_378003.out).2.1)
       rintro e w85 ⟨v433, rfl, ho0, hb⟩
       refine ⟨_, rfl, ?_⟩
       refine ax16 (Kd.R_elder' (kr HO_378003) (Kd.R_base ho0) hb) (Kd.R_elder' (kr HO_385003) (Kd.R_base ho0) hb) (Kd.R_elder' (kr HO392) (Kd.R_base ho0) hb) (Kd.R_elder' (kr HO398) (Kd.R_base ho0) hb) (Kd.R_elder' (kr HO406) (Kd.R_base ho0) hb) (Kd.R_elder' (kr HO412) (Kd.R_base ho0) hb) (Kd.R_elder' (kr HO420) (Kd.R_base ho0) hb) (Kd.R_elder' (kr HO428) (Kd.R_base ho0) hb) (Kd.R_lower (Kd.R_new' (Kd.R_new' (Kd.R_new' (Kd.R_new' (Kd.R_new' (Kd.R_new' (Kd.R_new' (Kd.R_new' ho0 (Kd.R_lt (kr HO_378003))) (Kd.R_lt (kr HO_385003))) (Kd.R_lt (kr HO392))) (Kd.R_lt (kr HO398))) (Kd.R_lt (kr HO406))) (Kd.R_lt (kr HO412))) (Kd.R_lt (kr HO420))) (Kd.R_lt (kr HO428))) (below_size bes)) (bb BK377 hb) (bb BK384 hb) (bb BK400 hb) (bb BK414 hb) (bb BK422 hb) (bb BK442 hb) (below_step bes hb) ?_
       clear HO_378003 HO_385003 HO392 HO398 HO406 HO412 HO420 HO428 BK377 BK384 BK400 BK414 BK422 BK442 HB
       intro HO_378003 HO_385003 HO392 HO398 HO406 HO412 HO420 HO428 HO434 BK377 BK384 BK400 BK414 BK422 BK442 HB
       (try clear hb)
       (try clear hb2)
       (try clear hk)
       (try clear hi)
       (try clear ho0)
       obtain ⟨Ao86, co86, eo86⟩ := Kd.R_slice HO428.out
       (first | subst eo86 | (injection eo86 with f1_ f2_ f3_; have f4_ := f1_.symm; have f5_ := f3_.symm; clear f1_ f2_ f3_; subst f4_; subst f5_))
       obtain ⟨Ao87, co87, eo87⟩ := Kd.R_slice HO434.out
       (first | subst eo87 | (injection eo87 with f1_ f2_ f3_; have f4_ := f1_.symm; have f5_ := f3_.symm; clear f1_ f2_ f3_; subst f4_; subst f5_))
       refine hK.out _ _ ⟨bk BK384 0, bk BK384 1, bk BK384 2, bk BK384 3, bk BK377 0, bk BK377 1, bk BK377 2, bk BK377 3⟩ (fun hHeld => ?_)
       clear hK K
       refine no 71 ?_
       refine on 4 (some 72) (lm 11 287) HT_ (fun K hK => ?_)
       refine goes_ Try.func8 (by kernel_rfl) rfl #[.pointer none, .agg #[.int .i64 t423, .int .i64 t424, .int .i64 t425, .slice Ao86 t426.length co86], .agg #[.int .i64 t429, .int .i64 t430, .int .i64 t431, .slice Ao87 t432.length co87]] (by rfl) rfl rfl ga ?_
       with_reducible refine (mul_Gemm_nil.calls kj10  t423 t424 t425 _ _ t426 t429 t430 t431 _ _ t432 t435 t436 t437 t438 t441 _ ?side1 ?side2 ?side3 ?side4 A41.out).mono ?_
       (case side1 => exact ks HO428)
       (case side2 => exact (Kd.R_reads' HO428.out).2.1)
       (case side3 => exact ks HO434)
       (case side4 => exact (Kd.R_reads' HO434.out).2.1)
       rintro e w88 ⟨v439, rfl, ho0, hb⟩
       refine ⟨_, rfl, ?_⟩
       refine ax17 (Kd.R_elder' (kr HO_378003) (Kd.R_base ho0) hb) (Kd.R_elder' (kr HO_385003) (Kd.R_base ho0) hb) (Kd.R_elder' (kr HO392) (Kd.R_base ho0) hb) (Kd.R_elder' (kr HO398) (Kd.R_base ho0) hb) (Kd.R_elder' (kr HO406) (Kd.R_base ho0) hb) (Kd.R_elder' (kr HO412) (Kd.R_base ho0) hb) (Kd.R_elder' (kr HO420) (Kd.R_base ho0) hb) (Kd.R_elder' (kr HO428) (Kd.R_base ho0) hb) (Kd.R_elder' (kr HO434) (Kd.R_base ho0) hb) (Kd.R_lower (Kd.R_new' (Kd.R_new' (Kd.R_new' (Kd.R_new' (Kd.R_new' (Kd.R_new' (Kd.R_new' (Kd.R_new' (Kd.R_new' ho0 (Kd.R_lt (kr HO_378003))) (Kd.R_lt (kr HO_385003))) (Kd.R_lt (kr HO392))) (Kd.R_lt (kr HO398))) (Kd.R_lt (kr HO406))) (Kd.R_lt (kr HO412))) (Kd.R_lt (kr HO420))) (Kd.R_lt (kr HO428))) (Kd.R_lt (kr HO434))) (below_size bes)) (bb BK377 hb) (bb BK384 hb) (bb BK400 hb) (bb BK414 hb) (bb BK422 hb) (bb BK442 hb) (below_step bes hb) ?_
       clear HO_378003 HO_385003 HO392 HO398 HO406 HO412 HO420 HO428 HO434 BK377 BK384 BK400 BK414 BK422 BK442 HB
       intro HO_378003 HO_385003 HO392 HO398 HO406 HO412 HO420 HO428 HO434 HO440 BK377 BK384 BK400 BK414 BK422 BK442 HB
       (try clear hb)
       (try clear hb2)
       (try clear hk)
       (try clear hi)
       (try clear ho0)
       refine hK.out _ _ ⟨bk BK384 0, bk BK384 1, bk BK384 2, bk BK384 3, bk BK377 0, bk BK377 1, bk BK377 2, bk BK377 3⟩ (fun hHeld => ?_)
       clear hK K
       refine no 72 ?_
       refine pu 5 67 (lm 11 319) HT_ ?_
       refine pu 6 73 (lm 11 383) HT_ ?_
       refine pu 7 74 (lm 11 511) HT_ ?_
       exact nP (hCont (.slice Ao86 t426.length co86, .slice Ao87 t432.length co87, v439, gb442) _ ⟨hHeld, (km HO392 fun _ hk => ⟨hk.1.1.1.2.2.1, ⟨hk.1.1.1.2.2.2.1, ⟨hk.1.1.1.2.2.2.2.1, ⟨hk.1.1.1.2.2.2.2.2, ⟨hk.1.1.2, ⟨hk.1.2, ⟨hk.2, ⟨hk.1.1.1.1, hk.1.1.1.2.1⟩⟩⟩⟩⟩⟩⟩⟩), (km HO398 fun _ hk => ⟨hk.1.1.1.2.2.1, ⟨hk.1.1.1.2.2.2.1, ⟨hk.1.1.1.2.2.2.2.1, ⟨hk.1.1.1.2.2.2.2.2, ⟨hk.1.1.2, ⟨hk.1.2, ⟨hk.2, ⟨hk.1.1.1.1, hk.1.1.1.2.1⟩⟩⟩⟩⟩⟩⟩⟩), (km HO406 fun _ hk => ⟨hk.1.1.1.2.2.1, ⟨hk.1.1.1.2.2.2.1, ⟨hk.1.1.1.2.2.2.2.1, ⟨hk.1.1.1.2.2.2.2.2, ⟨hk.1.1.2, ⟨hk.1.2, ⟨hk.2, ⟨hk.1.1.1.1, hk.1.1.1.2.1⟩⟩⟩⟩⟩⟩⟩⟩), (km HO412 fun _ hk => ⟨hk.1.1.1.2.2.1, ⟨hk.1.1.1.2.2.2.1, ⟨hk.1.1.1.2.2.2.2.1, ⟨hk.1.1.1.2.2.2.2.2, ⟨hk.1.1.2, ⟨hk.1.2, ⟨hk.2, ⟨hk.1.1.1.1, hk.1.1.1.2.1⟩⟩⟩⟩⟩⟩⟩⟩), (km HO420 fun _ hk => ⟨hk.1.1.1.2.2.1, ⟨hk.1.1.1.2.2.2.1, ⟨hk.1.1.1.2.2.2.2.1, ⟨hk.1.1.1.2.2.2.2.2, ⟨hk.1.1.2, ⟨hk.1.2, ⟨hk.2, ⟨hk.1.1.1.1, hk.1.1.1.2.1⟩⟩⟩⟩⟩⟩⟩⟩), (km HO428 fun _ hk => ⟨hk.1.1.1.1.1.1.2, ⟨hk.1.1.1.1.1.2, ⟨hk.1.1.1.1.2, ⟨hk.1.1.1.2, ⟨hk.1.1.2, ⟨hk.1.2, ⟨hk.2, ⟨hk.1.1.1.1.1.1.1.1.2, hk.1.1.1.1.1.1.1.2⟩⟩⟩⟩⟩⟩⟩⟩), (km HO434 fun _ hk => ⟨hk.1.1.1.1.1.1.2, ⟨hk.1.1.1.1.1.2, ⟨hk.1.1.1.1.2, ⟨hk.1.1.1.2, ⟨hk.1.1.2, ⟨hk.1.2, ⟨hk.2, ⟨hk.1.1.1.1.1.1.1.1.2, hk.1.1.1.1.1.1.1.2⟩⟩⟩⟩⟩⟩⟩⟩), (km HO440 fun _ hk => ⟨hk.1.1.1.1.1.1.2, ⟨hk.1.1.1.1.1.2, ⟨hk.1.1.1.1.2, ⟨hk.1.1.1.2, ⟨hk.1.1.2, ⟨hk.1.2, ⟨hk.2, ⟨hk.1.1.1.1.1.1.1.1.2, hk.1.1.1.1.1.1.1.2⟩⟩⟩⟩⟩⟩⟩⟩), (km HO_378003 fun _ hk => ⟨hk.1.1.1.2.1, ⟨hk.1.1.1.2.2.1, ⟨hk.1.1.1.2.2.2.1, ⟨hk.1.1.1.2.2.2.2.1, ⟨hk.1.1.1.2.2.2.2.2, ⟨hk.1.1.2, ⟨hk.1.2, ⟨hk.2, hk.1.1.1.1⟩⟩⟩⟩⟩⟩⟩⟩), (km HO_385003 fun _ hk => ⟨hk.1.1.1.2.1, ⟨hk.1.1.1.2.2.1, ⟨hk.1.1.1.2.2.2.1, ⟨hk.1.1.1.2.2.2.2.1, ⟨hk.1.1.1.2.2.2.2.2, ⟨hk.1.1.2, ⟨hk.1.2, ⟨hk.2, hk.1.1.1.1⟩⟩⟩⟩⟩⟩⟩⟩), (kb BK377), (kb BK384), (kb BK400), (kb BK414), (kb BK422), (kb BK442), GW442.out, GE442.out, NB377_442.out, NB442_377.out, NB384_442.out, NB442_384.out, NB400_442.out, NB442_400.out, NB414_442.out, NB442_414.out, NB422_442.out, NB442_422.out, bes⟩)
     rintro ⟨v427, v433, v439, gb442⟩ w89 ⟨hS_, h0_, h1_, h2_, h3_, h4_, h5_, h6_, h7_, h8_, h9_, h10_, h11_, h12_, h13_, h14_, h15_, h16_, h17_, h18_, h19_, h20_, h21_, h22_, h23_, h24_, h25_, h26_, h27_, h28_⟩
     have n0_ : Aside0 (Kd.R (Kd.int .u64) 33 w89 w.heap.size (fun k_ => some k_ ≠ (.slice Ao52 t396.length co52 : Value).ownBlock ∧ some k_ ≠ (v405 : Value).ownBlock ∧ some k_ ≠ (.slice Ao64 t410.length co64 : Value).ownBlock ∧ some k_ ≠ (.slice Ao80 t418.length co80 : Value).ownBlock ∧ some k_ ≠ (v427 : Value).ownBlock ∧ some k_ ≠ (v433 : Value).ownBlock ∧ some k_ ≠ (v439 : Value).ownBlock ∧ some k_ ≠ (.slice Ao16 t374.length co16 : Value).ownBlock ∧ some k_ ≠ (.slice Ao21 t381.length co21 : Value).ownBlock) v391 t390) := ⟨h0_⟩
     have n1_ : Aside0 (Kd.R (Kd.int .u64) 33 w89 w.heap.size (fun k_ => some k_ ≠ (v391 : Value).ownBlock ∧ some k_ ≠ (v405 : Value).ownBlock ∧ some k_ ≠ (.slice Ao64 t410.length co64 : Value).ownBlock ∧ some k_ ≠ (.slice Ao80 t418.length co80 : Value).ownBlock ∧ some k_ ≠ (v427 : Value).ownBlock ∧ some k_ ≠ (v433 : Value).ownBlock ∧ some k_ ≠ (v439 : Value).ownBlock ∧ some k_ ≠ (.slice Ao16 t374.length co16 : Value).ownBlock ∧ some k_ ≠ (.slice Ao21 t381.length co21 : Value).ownBlock) (.slice Ao52 t396.length co52) t396) := ⟨h1_⟩
     have n2_ : Aside0 (Kd.R (Kd.int .u64) 33 w89 w.heap.size (fun k_ => some k_ ≠ (v391 : Value).ownBlock ∧ some k_ ≠ (.slice Ao52 t396.length co52 : Value).ownBlock ∧ some k_ ≠ (.slice Ao64 t410.length co64 : Value).ownBlock ∧ some k_ ≠ (.slice Ao80 t418.length co80 : Value).ownBlock ∧ some k_ ≠ (v427 : Value).ownBlock ∧ some k_ ≠ (v433 : Value).ownBlock ∧ some k_ ≠ (v439 : Value).ownBlock ∧ some k_ ≠ (.slice Ao16 t374.length co16 : Value).ownBlock ∧ some k_ ≠ (.slice Ao21 t381.length co21 : Value).ownBlock) v405 t404) := ⟨h2_⟩
     have n3_ : Aside0 (Kd.R (Kd.int .u64) 33 w89 w.heap.size (fun k_ => some k_ ≠ (v391 : Value).ownBlock ∧ some k_ ≠ (.slice Ao52 t396.length co52 : Value).ownBlock ∧ some k_ ≠ (v405 : Value).ownBlock ∧ some k_ ≠ (.slice Ao80 t418.length co80 : Value).ownBlock ∧ some k_ ≠ (v427 : Value).ownBlock ∧ some k_ ≠ (v433 : Value).ownBlock ∧ some k_ ≠ (v439 : Value).ownBlock ∧ some k_ ≠ (.slice Ao16 t374.length co16 : Value).ownBlock ∧ some k_ ≠ (.slice Ao21 t381.length co21 : Value).ownBlock) (.slice Ao64 t410.length co64) t410) := ⟨h3_⟩
     have n4_ : Aside0 (Kd.R (Kd.int .u64) 33 w89 w.heap.size (fun k_ => some k_ ≠ (v391 : Value).ownBlock ∧ some k_ ≠ (.slice Ao52 t396.length co52 : Value).ownBlock ∧ some k_ ≠ (v405 : Value).ownBlock ∧ some k_ ≠ (.slice Ao64 t410.length co64 : Value).ownBlock ∧ some k_ ≠ (v427 : Value).ownBlock ∧ some k_ ≠ (v433 : Value).ownBlock ∧ some k_ ≠ (v439 : Value).ownBlock ∧ some k_ ≠ (.slice Ao16 t374.length co16 : Value).ownBlock ∧ some k_ ≠ (.slice Ao21 t381.length co21 : Value).ownBlock) (.slice Ao80 t418.length co80) t418) := ⟨h4_⟩
     have n5_ : Aside0 (Kd.R (Kd.int .u64) 33 w89 w.heap.size (fun k_ => some k_ ≠ (v391 : Value).ownBlock ∧ some k_ ≠ (.slice Ao52 t396.length co52 : Value).ownBlock ∧ some k_ ≠ (v405 : Value).ownBlock ∧ some k_ ≠ (.slice Ao64 t410.length co64 : Value).ownBlock ∧ some k_ ≠ (.slice Ao80 t418.length co80 : Value).ownBlock ∧ some k_ ≠ (v433 : Value).ownBlock ∧ some k_ ≠ (v439 : Value).ownBlock ∧ some k_ ≠ (.slice Ao16 t374.length co16 : Value).ownBlock ∧ some k_ ≠ (.slice Ao21 t381.length co21 : Value).ownBlock) v427 t426) := ⟨h5_⟩
     have n6_ : Aside0 (Kd.R (Kd.int .u64) 33 w89 w.heap.size (fun k_ => some k_ ≠ (v391 : Value).ownBlock ∧ some k_ ≠ (.slice Ao52 t396.length co52 : Value).ownBlock ∧ some k_ ≠ (v405 : Value).ownBlock ∧ some k_ ≠ (.slice Ao64 t410.length co64 : Value).ownBlock ∧ some k_ ≠ (.slice Ao80 t418.length co80 : Value).ownBlock ∧ some k_ ≠ (v427 : Value).ownBlock ∧ some k_ ≠ (v439 : Value).ownBlock ∧ some k_ ≠ (.slice Ao16 t374.length co16 : Value).ownBlock ∧ some k_ ≠ (.slice Ao21 t381.length co21 : Value).ownBlock) v433 t432) := ⟨h6_⟩
     have n7_ : Aside0 (Kd.R (Kd.int .u64) 33 w89 w.heap.size (fun k_ => some k_ ≠ (v391 : Value).ownBlock ∧ some k_ ≠ (.slice Ao52 t396.length co52 : Value).ownBlock ∧ some k_ ≠ (v405 : Value).ownBlock ∧ some k_ ≠ (.slice Ao64 t410.length co64 : Value).ownBlock ∧ some k_ ≠ (.slice Ao80 t418.length co80 : Value).ownBlock ∧ some k_ ≠ (v427 : Value).ownBlock ∧ some k_ ≠ (v433 : Value).ownBlock ∧ some k_ ≠ (.slice Ao16 t374.length co16 : Value).ownBlock ∧ some k_ ≠ (.slice Ao21 t381.length co21 : Value).ownBlock) v439 t438) := ⟨h7_⟩
     have n8_ : Aside0 (Kd.R (Kd.int .u64) 33 w89 w.heap.size (fun k_ => some k_ ≠ (v391 : Value).ownBlock ∧ some k_ ≠ (.slice Ao52 t396.length co52 : Value).ownBlock ∧ some k_ ≠ (v405 : Value).ownBlock ∧ some k_ ≠ (.slice Ao64 t410.length co64 : Value).ownBlock ∧ some k_ ≠ (.slice Ao80 t418.length co80 : Value).ownBlock ∧ some k_ ≠ (v427 : Value).ownBlock ∧ some k_ ≠ (v433 : Value).ownBlock ∧ some k_ ≠ (v439 : Value).ownBlock ∧ some k_ ≠ (.slice Ao21 t381.length co21 : Value).ownBlock) (.slice Ao16 t374.length co16) t374) := ⟨h8_⟩
     have n9_ : Aside0 (Kd.R (Kd.int .u64) 33 w89 w.heap.size (fun k_ => some k_ ≠ (v391 : Value).ownBlock ∧ some k_ ≠ (.slice Ao52 t396.length co52 : Value).ownBlock ∧ some k_ ≠ (v405 : Value).ownBlock ∧ some k_ ≠ (.slice Ao64 t410.length co64 : Value).ownBlock ∧ some k_ ≠ (.slice Ao80 t418.length co80 : Value).ownBlock ∧ some k_ ≠ (v427 : Value).ownBlock ∧ some k_ ≠ (v433 : Value).ownBlock ∧ some k_ ≠ (v439 : Value).ownBlock ∧ some k_ ≠ (.slice Ao16 t374.length co16 : Value).ownBlock) (.slice Ao21 t381.length co21) t381) := ⟨h9_⟩
     have n10_ : Aside0 (w89.heap[gb377]? = some (.cells #[.int .i64 t371, .int .i64 t372, .int .i64 t373, .slice Ao16 t374.length co16] 25 (0, 0))) := ⟨h10_⟩
     have n11_ : Aside0 (w89.heap[gb384]? = some (.cells #[.int .i64 t378, .int .i64 t379, .int .i64 t380, .slice Ao21 t381.length co21] 25 (0, 0))) := ⟨h11_⟩
     have n12_ : Aside0 (w89.heap[gb400]? = some (.cells #[.int .i64 t393, .int .i64 t394, .int .i64 t395, .slice Ao52 t396.length co52] 25 (0, 0))) := ⟨h12_⟩
     have n13_ : Aside0 (w89.heap[gb414]? = some (.cells #[.int .i64 t407, .int .i64 t408, .int .i64 t409, .slice Ao64 t410.length co64] 25 (0, 0))) := ⟨h13_⟩
     have n14_ : Aside0 (w89.heap[gb422]? = some (.cells #[.int .i64 t415, .int .i64 t416, .int .i64 t417, .slice Ao80 t418.length co80] 25 (0, 0))) := ⟨h14_⟩
     have n15_ : Aside0 (w89.heap[gb442]? = some (.cells #[.int .i64 0, .int .i64 0, .int .i64 0, .slice none 0 0] 25 (0, 0))) := ⟨h15_⟩
     have n16_ : Aside0 (w.heap.size ≤ gb442) := ⟨h16_⟩
     have n17_ : Aside0 (w.heap.size ≤ gb442) := ⟨h17_⟩
     have n18_ : Aside0 (gb377 ≠ gb442) := ⟨h18_⟩
     have n19_ : Aside0 (gb442 ≠ gb377) := ⟨h19_⟩
     have n20_ : Aside0 (gb384 ≠ gb442) := ⟨h20_⟩
     have n21_ : Aside0 (gb442 ≠ gb384) := ⟨h21_⟩
     have n22_ : Aside0 (gb400 ≠ gb442) := ⟨h22_⟩
     have n23_ : Aside0 (gb442 ≠ gb400) := ⟨h23_⟩
     have n24_ : Aside0 (gb414 ≠ gb442) := ⟨h24_⟩
     have n25_ : Aside0 (gb442 ≠ gb414) := ⟨h25_⟩
     have n26_ : Aside0 (gb422 ≠ gb442) := ⟨h26_⟩
     have n27_ : Aside0 (gb442 ≠ gb422) := ⟨h27_⟩
     have n28_ : Aside0 (Below w.heap.size w w89) := ⟨h28_⟩
     clear HO_378003 HO_385003 HO392 HO398 HO406 HO412 HO420 BK377 BK384 BK400 BK414 BK422 HB h0_ h1_ h2_ h3_ h4_ h5_ h6_ h7_ h8_ h9_ h10_ h11_ h12_ h13_ h14_ h15_ h16_ h17_ h18_ h19_ h20_ h21_ h22_ h23_ h24_ h25_ h26_ h27_ h28_
     have HO392 := n0_
     have HO398 := n1_
     have HO406 := n2_
     have HO412 := n3_
     have HO420 := n4_
     have HO428 := n5_
     have HO434 := n6_
     have HO440 := n7_
     have HO_378003 := n8_
     have HO_385003 := n9_
     have BK377 := n10_
     have BK384 := n11_
     have BK400 := n12_
     have BK414 := n13_
     have BK422 := n14_
     have BK442 := n15_
     have GW442 := n16_
     have GE442 := n17_
     have NB377_442 := n18_
     have NB442_377 := n19_
     have NB384_442 := n20_
     have NB442_384 := n21_
     have NB400_442 := n22_
     have NB442_400 := n23_
     have NB414_442 := n24_
     have NB442_414 := n25_
     have NB422_442 := n26_
     have NB442_422 := n27_
     have HB := n28_
     clear n0_ n1_ n2_ n3_ n4_ n5_ n6_ n7_ n8_ n9_ n10_ n11_ n12_ n13_ n14_ n15_ n16_ n17_ n18_ n19_ n20_ n21_ n22_ n23_ n24_ n25_ n26_ n27_ n28_
     have hHeld : w89.cell? ⟨gb384, 0, none⟩ = some (.int .i64 t378) ∧ w89.cell? ⟨gb384, 1, none⟩ = some (.int .i64 t379) ∧ w89.cell? ⟨gb384, 2, none⟩ = some (.int .i64 t380) ∧ w89.cell? ⟨gb384, 3, none⟩ = some (.slice Ao21 t381.length co21) ∧ w89.cell? ⟨gb377, 0, none⟩ = some (.int .i64 t371) ∧ w89.cell? ⟨gb377, 1, none⟩ = some (.int .i64 t372) ∧ w89.cell? ⟨gb377, 2, none⟩ = some (.int .i64 t373) ∧ w89.cell? ⟨gb377, 3, none⟩ = some (.slice Ao16 t374.length co16) := hS_
     obtain ⟨Ao93, co93, eo93⟩ := Kd.R_slice HO440.out
     (first | subst eo93 | (injection eo93 with f1_ f2_ f3_; have f4_ := f1_.symm; have f5_ := f3_.symm; clear f1_ f2_ f3_; subst f4_; subst f5_))
     refine norm_ (a' := ?_) ?_ ?_
     rotate_left
     ·
      simp only [putAll, Act.put, List.setIfInBounds_toArray, List.set_cons_zero, List.set_cons_succ]
      rfl
     refine on 9 none (lm 11 1023) HT_ (fun K hK => ?_)
     have hs90 : w89.cell? ⟨gb442, 0, none⟩ = some (.int .i64 0) := bk BK442 0
     have hfs90 := blk_frozen BK442.out 0
     have hns90_0 := NB377_442.out
     have hns90_1 := NB384_442.out
     have hns90_2 := NB400_442.out
     have hns90_3 := NB414_442.out
     have hns90_4 := NB422_442.out
     have hms90_0 := NB442_377.out
     have hms90_1 := NB442_384.out
     have hms90_2 := NB442_400.out
     have hms90_3 := NB442_414.out
     have hms90_4 := NB442_422.out
     have hs91 : w89.cell? ⟨gb442, 1, none⟩ = some (.int .i64 0) := bk BK442 1
     have hfs91 := blk_frozen BK442.out 1
     have hns91_0 := NB377_442.out
     have hns91_1 := NB384_442.out
     have hns91_2 := NB400_442.out
     have hns91_3 := NB414_442.out
     have hns91_4 := NB422_442.out
     have hms91_0 := NB442_377.out
     have hms91_1 := NB442_384.out
     have hms91_2 := NB442_400.out
     have hms91_3 := NB442_414.out
     have hms91_4 := NB442_422.out
     have hs92 : w89.cell? ⟨gb442, 2, none⟩ = some (.int .i64 0) := bk BK442 2
     have hfs92 := blk_frozen BK442.out 2
     have hns92_0 := NB377_442.out
     have hns92_1 := NB384_442.out
     have hns92_2 := NB400_442.out
     have hns92_3 := NB414_442.out
     have hns92_4 := NB422_442.out
     have hms92_0 := NB442_377.out
     have hms92_1 := NB442_384.out
     have hms92_2 := NB442_400.out
     have hms92_3 := NB442_414.out
     have hms92_4 := NB442_422.out
     have hs94 : w89.cell? ⟨gb442, 3, none⟩ = some (.slice none 0 0) := bk BK442 3
     have hfs94 := blk_frozen BK442.out 3
     have hns94_0 := NB377_442.out
     have hns94_1 := NB384_442.out
     have hns94_2 := NB400_442.out
     have hns94_3 := NB414_442.out
     have hns94_4 := NB422_442.out
     have hms94_0 := NB442_377.out
     have hms94_1 := NB442_384.out
     have hms94_2 := NB442_400.out
     have hms94_3 := NB442_414.out
     have hms94_4 := NB442_422.out
     refine skip_ (w1 := ?_) (by rfl) rfl ?_ ?_
     rotate_left
     ·
      go_simp
      rfl
     refine hK.out _ _ ⟨((cell_far (p := ⟨gb442, _, none⟩) NB384_442.out _).trans (((cell_far (p := ⟨gb442, _, none⟩) NB384_442.out _).trans (((cell_far (p := ⟨gb442, _, none⟩) NB384_442.out _).trans (((cell_far (p := ⟨gb442, _, none⟩) NB384_442.out _).trans (hHeld.1)))))))), ((cell_far (p := ⟨gb442, _, none⟩) NB384_442.out _).trans (((cell_far (p := ⟨gb442, _, none⟩) NB384_442.out _).trans (((cell_far (p := ⟨gb442, _, none⟩) NB384_442.out _).trans (((cell_far (p := ⟨gb442, _, none⟩) NB384_442.out _).trans (hHeld.2.1)))))))), ((cell_far (p := ⟨gb442, _, none⟩) NB384_442.out _).trans (((cell_far (p := ⟨gb442, _, none⟩) NB384_442.out _).trans (((cell_far (p := ⟨gb442, _, none⟩) NB384_442.out _).trans (((cell_far (p := ⟨gb442, _, none⟩) NB384_442.out _).trans (hHeld.2.2.1)))))))), ((cell_far (p := ⟨gb442, _, none⟩) NB384_442.out _).trans (((cell_far (p := ⟨gb442, _, none⟩) NB384_442.out _).trans (((cell_far (p := ⟨gb442, _, none⟩) NB384_442.out _).trans (((cell_far (p := ⟨gb442, _, none⟩) NB384_442.out _).trans (hHeld.2.2.2.1)))))))), ((cell_far (p := ⟨gb442, _, none⟩) NB377_442.out _).trans (((cell_far (p := ⟨gb442, _, none⟩) NB377_442.out _).trans (((cell_far (p := ⟨gb442, _, none⟩) NB377_442.out _).trans (((cell_far (p := ⟨gb442, _, none⟩) NB377_442.out _).trans (hHeld.2.2.2.2.1)))))))), ((cell_far (p := ⟨gb442, _, none⟩) NB377_442.out _).trans (((cell_far (p := ⟨gb442, _, none⟩) NB377_442.out _).trans (((cell_far (p := ⟨gb442, _, none⟩) NB377_442.out _).trans (((cell_far (p := ⟨gb442, _, none⟩) NB377_442.out _).trans (hHeld.2.2.2.2.2.1)))))))), ((cell_far (p := ⟨gb442, _, none⟩) NB377_442.out _).trans (((cell_far (p := ⟨gb442, _, none⟩) NB377_442.out _).trans (((cell_far (p := ⟨gb442, _, none⟩) NB377_442.out _).trans (((cell_far (p := ⟨gb442, _, none⟩) NB377_442.out _).trans (hHeld.2.2.2.2.2.2.1)))))))), ((cell_far (p := ⟨gb442, _, none⟩) NB377_442.out _).trans (((cell_far (p := ⟨gb442, _, none⟩) NB377_442.out _).trans (((cell_far (p := ⟨gb442, _, none⟩) NB377_442.out _).trans (((cell_far (p := ⟨gb442, _, none⟩) NB377_442.out _).trans (hHeld.2.2.2.2.2.2.2))))))))⟩ (fun hHeld => ?_)
     clear hK K
     refine pu 10 18 (lm 11 2047) HT_ ?_
     refine done_ (done_of HT_.out (by kernel_rfl)) ?_
     go_upto_region 13 with (fail)
     go_cut [95] (fun v95 wc => ∃ (kq : Nat) (x95_41 : Bool), v95 = .bool x95_41 ∧ Aside0 (gimballaw11_MulOnes.j1 kq x95_41 t371 t372 t373 t374 t393 t394 t395 t396 t407 t408 t409 t410 = some r) ∧ Aside0 (kq ≤ kj10) ∧ Aside0 (Kd.R (Kd.int .u64) 33 wc w.heap.size (fun k_ => some k_ ≠ ((.slice Ao21 t381.length co21) : Value).ownBlock ∧ some k_ ≠ ((.slice Ao52 t396.length co52) : Value).ownBlock ∧ some k_ ≠ ((.slice Ao64 t410.length co64) : Value).ownBlock ∧ some k_ ≠ ((.slice Ao80 t418.length co80) : Value).ownBlock ∧ some k_ ≠ ((.slice Ao93 t438.length co93) : Value).ownBlock) (.slice Ao16 t374.length co16) t374) ∧ Aside0 (Kd.R (Kd.int .u64) 33 wc w.heap.size (fun k_ => some k_ ≠ ((.slice Ao16 t374.length co16) : Value).ownBlock ∧ some k_ ≠ ((.slice Ao52 t396.length co52) : Value).ownBlock ∧ some k_ ≠ ((.slice Ao64 t410.length co64) : Value).ownBlock ∧ some k_ ≠ ((.slice Ao80 t418.length co80) : Value).ownBlock ∧ some k_ ≠ ((.slice Ao93 t438.length co93) : Value).ownBlock) (.slice Ao21 t381.length co21) t381) ∧ Aside0 (Kd.R (Kd.int .u64) 33 wc w.heap.size (fun k_ => some k_ ≠ ((.slice Ao16 t374.length co16) : Value).ownBlock ∧ some k_ ≠ ((.slice Ao21 t381.length co21) : Value).ownBlock ∧ some k_ ≠ ((.slice Ao64 t410.length co64) : Value).ownBlock ∧ some k_ ≠ ((.slice Ao80 t418.length co80) : Value).ownBlock ∧ some k_ ≠ ((.slice Ao93 t438.length co93) : Value).ownBlock) (.slice Ao52 t396.length co52) t396) ∧ Aside0 (Kd.R (Kd.int .u64) 33 wc w.heap.size (fun k_ => some k_ ≠ ((.slice Ao16 t374.length co16) : Value).ownBlock ∧ some k_ ≠ ((.slice Ao21 t381.length co21) : Value).ownBlock ∧ some k_ ≠ ((.slice Ao52 t396.length co52) : Value).ownBlock ∧ some k_ ≠ ((.slice Ao80 t418.length co80) : Value).ownBlock ∧ some k_ ≠ ((.slice Ao93 t438.length co93) : Value).ownBlock) (.slice Ao64 t410.length co64) t410) ∧ Aside0 (Kd.R (Kd.int .u64) 33 wc w.heap.size (fun k_ => some k_ ≠ ((.slice Ao16 t374.length co16) : Value).ownBlock ∧ some k_ ≠ ((.slice Ao21 t381.length co21) : Value).ownBlock ∧ some k_ ≠ ((.slice Ao52 t396.length co52) : Value).ownBlock ∧ some k_ ≠ ((.slice Ao64 t410.length co64) : Value).ownBlock ∧ some k_ ≠ ((.slice Ao93 t438.length co93) : Value).ownBlock) (.slice Ao80 t418.length co80) t418) ∧ Aside0 (Kd.R (Kd.int .u64) 33 wc w.heap.size (fun k_ => some k_ ≠ ((.slice Ao16 t374.length co16) : Value).ownBlock ∧ some k_ ≠ ((.slice Ao21 t381.length co21) : Value).ownBlock ∧ some k_ ≠ ((.slice Ao52 t396.length co52) : Value).ownBlock ∧ some k_ ≠ ((.slice Ao64 t410.length co64) : Value).ownBlock ∧ some k_ ≠ ((.slice Ao80 t418.length co80) : Value).ownBlock) (.slice Ao93 t438.length co93) t438) ∧ Aside0 (wc.heap[gb377]? = some (.cells #[.int .i64 t371, .int .i64 t372, .int .i64 t373, (.slice Ao16 t374.length co16)] 25 (0, 0))) ∧ Aside0 (wc.heap[gb384]? = some (.cells #[.int .i64 t378, .int .i64 t379, .int .i64 t380, (.slice Ao21 t381.length co21)] 25 (0, 0))) ∧ Aside0 (wc.heap[gb400]? = some (.cells #[.int .i64 t393, .int .i64 t394, .int .i64 t395, (.slice Ao52 t396.length co52)] 25 (0, 0))) ∧ Aside0 (wc.heap[gb414]? = some (.cells #[.int .i64 t407, .int .i64 t408, .int .i64 t409, (.slice Ao64 t410.length co64)] 25 (0, 0))) ∧ Aside0 (wc.heap[gb422]? = some (.cells #[.int .i64 t415, .int .i64 t416, .int .i64 t417, (.slice Ao80 t418.length co80)] 25 (0, 0))) ∧ Aside0 (wc.heap[gb442]? = some (.cells #[.int .i64 t435, .int .i64 t436, .int .i64 t437, (.slice Ao93 t438.length co93)] 25 (0, 0))) ∧ Aside0 (Below w.heap.size w wc))
     case first => as_aux_lemma =>
      have H := HC42.out
      clear HC42
      by_cases c95 : t399 = 0
      rotate_left
      ·
       rw [if_neg c95] at H
       have c95b0 : (t399 == 0) = false := beq_eq_false_iff_ne.mpr c95
       have c95b1 : (t399 != 0) = true := bne_iff_ne.mpr c95
       (first | rw [c95b0] | (simp only [i64_w, i32_w]; rw [c95b0]) | skip)
       rw [hLW] at H
       exact absurd H (by cases kj10 <;> simp [gimballaw11_MulOnes.j1])
      rw [if_pos c95] at H
      have c95b0 : (t399 == 0) = true := beq_iff_eq.mpr c95
      have c95b1 : (t399 != 0) = false := bne_eq_false_iff_eq.mpr c95
      clear c95
      (first | rw [c95b0] | (simp only [i64_w, i32_w]; rw [c95b0]) | skip)
      by_cases c96 : t413 = 0
      rotate_left
      ·
       rw [if_neg c96] at H
       have c96b0 : (t413 == 0) = false := beq_eq_false_iff_ne.mpr c96
       have c96b1 : (t413 != 0) = true := bne_iff_ne.mpr c96
       rw [hLW] at H
       exact absurd H (by cases kj10 <;> simp [gimballaw11_MulOnes.j1])
      rw [if_pos c96] at H
      have c96b0 : (t413 == 0) = true := beq_iff_eq.mpr c96
      have c96b1 : (t413 != 0) = false := bne_eq_false_iff_eq.mpr c96
      clear c96
      by_cases c97 : t421 = 0
      rotate_left
      ·
       rw [if_neg c97] at H
       have c97b0 : (t421 == 0) = false := beq_eq_false_iff_ne.mpr c97
       have c97b1 : (t421 != 0) = true := bne_iff_ne.mpr c97
       rw [hLW] at H
       exact absurd H (by cases kj10 <;> simp [gimballaw11_MulOnes.j1])
      rw [if_pos c97] at H
      have c97b0 : (t421 == 0) = true := beq_iff_eq.mpr c97
      have c97b1 : (t421 != 0) = false := bne_eq_false_iff_eq.mpr c97
      clear c97
      by_cases c98 : t441 = 0
      rotate_left
      ·
       rw [if_neg c98] at H
       have c98b0 : (t441 == 0) = false := beq_eq_false_iff_ne.mpr c98
       have c98b1 : (t441 != 0) = true := bne_iff_ne.mpr c98
       rw [hLW] at H
       exact absurd H (by cases kj10 <;> simp [gimballaw11_MulOnes.j1])
      rw [if_pos c98] at H
      have c98b0 : (t441 == 0) = true := beq_iff_eq.mpr c98
      have c98b1 : (t441 != 0) = false := bne_eq_false_iff_eq.mpr c98
      clear c98
      obtain ⟨⟨t443, t444, t445, t446⟩, A990, H⟩ := Option.bind_eq_some_iff.mp H
      (try dsimp -simprocs only at H)
      have A99 := Aside0.mk A990
      clear A990
      obtain ⟨t449, A1000, H⟩ := Option.bind_eq_some_iff.mp H
      (try dsimp -simprocs only at H)
      have A100 := Aside0.mk A1000
      clear A1000
      have H' := Aside0.mk H
      clear H
      try go_wp2
      have n0_ : Aside0 (Kd.R (Kd.int .u64) 33 ((((w89.setCell ⟨gb442, 0, none⟩ (.int .i64 t435)).setCell ⟨gb442, 1, none⟩ (.int .i64 t436)).setCell ⟨gb442, 2, none⟩ (.int .i64 t437)).setCell ⟨gb442, 3, none⟩ (.slice Ao93 t438.length co93)) w.heap.size (fun k_ => some k_ ≠ (.slice Ao21 t381.length co21 : Value).ownBlock ∧ some k_ ≠ (v391 : Value).ownBlock ∧ some k_ ≠ (.slice Ao52 t396.length co52 : Value).ownBlock ∧ some k_ ≠ (v405 : Value).ownBlock ∧ some k_ ≠ (.slice Ao64 t410.length co64 : Value).ownBlock ∧ some k_ ≠ (.slice Ao80 t418.length co80 : Value).ownBlock ∧ some k_ ≠ (v427 : Value).ownBlock ∧ some k_ ≠ (v433 : Value).ownBlock ∧ some k_ ≠ (.slice Ao93 t438.length co93 : Value).ownBlock) (.slice Ao16 t374.length co16) t374) := ⟨by (with_reducible repeat (first | apply Kd.R_alloc | apply Kd.R_drewN | apply Kd.R_drew)); exact Kd.R_mono (Kd.R_far (p := ⟨gb442, 3, none⟩) (Kd.R_far (p := ⟨gb442, 2, none⟩) (Kd.R_far (p := ⟨gb442, 1, none⟩) (Kd.R_far (p := ⟨gb442, 0, none⟩) (Kd.R_types HO_378003.out BK442.out (by decide)) (fun _ hk => hk.2) (.int .i64 t435)) (fun _ hk => hk.2) (.int .i64 t436)) (fun _ hk => hk.2) (.int .i64 t437)) (fun _ hk => hk.2) (.slice Ao93 t438.length co93)) (fun _ hk => ⟨hk.1.2.2.2.2.2.2.2.2, ⟨hk.1.1, ⟨hk.1.2.1, ⟨hk.1.2.2.1, ⟨hk.1.2.2.2.1, ⟨hk.1.2.2.2.2.1, ⟨hk.1.2.2.2.2.2.1, ⟨hk.1.2.2.2.2.2.2.1, hk.1.2.2.2.2.2.2.2.1⟩⟩⟩⟩⟩⟩⟩⟩)⟩
      have n1_ : Aside0 (Kd.R (Kd.int .u64) 33 ((((w89.setCell ⟨gb442, 0, none⟩ (.int .i64 t435)).setCell ⟨gb442, 1, none⟩ (.int .i64 t436)).setCell ⟨gb442, 2, none⟩ (.int .i64 t437)).setCell ⟨gb442, 3, none⟩ (.slice Ao93 t438.length co93)) w.heap.size (fun k_ => some k_ ≠ (.slice Ao16 t374.length co16 : Value).ownBlock ∧ some k_ ≠ (v391 : Value).ownBlock ∧ some k_ ≠ (.slice Ao52 t396.length co52 : Value).ownBlock ∧ some k_ ≠ (v405 : Value).ownBlock ∧ some k_ ≠ (.slice Ao64 t410.length co64 : Value).ownBlock ∧ some k_ ≠ (.slice Ao80 t418.length co80 : Value).ownBlock ∧ some k_ ≠ (v427 : Value).ownBlock ∧ some k_ ≠ (v433 : Value).ownBlock ∧ some k_ ≠ (.slice Ao93 t438.length co93 : Value).ownBlock) (.slice Ao21 t381.length co21) t381) := ⟨by (with_reducible repeat (first | apply Kd.R_alloc | apply Kd.R_drewN | apply Kd.R_drew)); exact Kd.R_mono (Kd.R_far (p := ⟨gb442, 3, none⟩) (Kd.R_far (p := ⟨gb442, 2, none⟩) (Kd.R_far (p := ⟨gb442, 1, none⟩) (Kd.R_far (p := ⟨gb442, 0, none⟩) (Kd.R_types HO_385003.out BK442.out (by decide)) (fun _ hk => hk.2) (.int .i64 t435)) (fun _ hk => hk.2) (.int .i64 t436)) (fun _ hk => hk.2) (.int .i64 t437)) (fun _ hk => hk.2) (.slice Ao93 t438.length co93)) (fun _ hk => ⟨hk.1.2.2.2.2.2.2.2.2, ⟨hk.1.1, ⟨hk.1.2.1, ⟨hk.1.2.2.1, ⟨hk.1.2.2.2.1, ⟨hk.1.2.2.2.2.1, ⟨hk.1.2.2.2.2.2.1, ⟨hk.1.2.2.2.2.2.2.1, hk.1.2.2.2.2.2.2.2.1⟩⟩⟩⟩⟩⟩⟩⟩)⟩
      have n2_ : Aside0 (Kd.R (Kd.int .u64) 33 ((((w89.setCell ⟨gb442, 0, none⟩ (.int .i64 t435)).setCell ⟨gb442, 1, none⟩ (.int .i64 t436)).setCell ⟨gb442, 2, none⟩ (.int .i64 t437)).setCell ⟨gb442, 3, none⟩ (.slice Ao93 t438.length co93)) w.heap.size (fun k_ => some k_ ≠ (.slice Ao16 t374.length co16 : Value).ownBlock ∧ some k_ ≠ (.slice Ao21 t381.length co21 : Value).ownBlock ∧ some k_ ≠ (.slice Ao52 t396.length co52 : Value).ownBlock ∧ some k_ ≠ (v405 : Value).ownBlock ∧ some k_ ≠ (.slice Ao64 t410.length co64 : Value).ownBlock ∧ some k_ ≠ (.slice Ao80 t418.length co80 : Value).ownBlock ∧ some k_ ≠ (v427 : Value).ownBlock ∧ some k_ ≠ (v433 : Value).ownBlock ∧ some k_ ≠ (.slice Ao93 t438.length co93 : Value).ownBlock) v391 t390) := ⟨by (with_reducible repeat (first | apply Kd.R_alloc | apply Kd.R_drewN | apply Kd.R_drew)); exact Kd.R_mono (Kd.R_far (p := ⟨gb442, 3, none⟩) (Kd.R_far (p := ⟨gb442, 2, none⟩) (Kd.R_far (p := ⟨gb442, 1, none⟩) (Kd.R_far (p := ⟨gb442, 0, none⟩) (Kd.R_types HO392.out BK442.out (by decide)) (fun _ hk => hk.2) (.int .i64 t435)) (fun _ hk => hk.2) (.int .i64 t436)) (fun _ hk => hk.2) (.int .i64 t437)) (fun _ hk => hk.2) (.slice Ao93 t438.length co93)) (fun _ hk => ⟨hk.1.2.2.2.2.2.2.2.1, ⟨hk.1.2.2.2.2.2.2.2.2, ⟨hk.1.1, ⟨hk.1.2.1, ⟨hk.1.2.2.1, ⟨hk.1.2.2.2.1, ⟨hk.1.2.2.2.2.1, ⟨hk.1.2.2.2.2.2.1, hk.1.2.2.2.2.2.2.1⟩⟩⟩⟩⟩⟩⟩⟩)⟩
      have n3_ : Aside0 (Kd.R (Kd.int .u64) 33 ((((w89.setCell ⟨gb442, 0, none⟩ (.int .i64 t435)).setCell ⟨gb442, 1, none⟩ (.int .i64 t436)).setCell ⟨gb442, 2, none⟩ (.int .i64 t437)).setCell ⟨gb442, 3, none⟩ (.slice Ao93 t438.length co93)) w.heap.size (fun k_ => some k_ ≠ (.slice Ao16 t374.length co16 : Value).ownBlock ∧ some k_ ≠ (.slice Ao21 t381.length co21 : Value).ownBlock ∧ some k_ ≠ (v391 : Value).ownBlock ∧ some k_ ≠ (v405 : Value).ownBlock ∧ some k_ ≠ (.slice Ao64 t410.length co64 : Value).ownBlock ∧ some k_ ≠ (.slice Ao80 t418.length co80 : Value).ownBlock ∧ some k_ ≠ (v427 : Value).ownBlock ∧ some k_ ≠ (v433 : Value).ownBlock ∧ some k_ ≠ (.slice Ao93 t438.length co93 : Value).ownBlock) (.slice Ao52 t396.length co52) t396) := ⟨by (with_reducible repeat (first | apply Kd.R_alloc | apply Kd.R_drewN | apply Kd.R_drew)); exact Kd.R_mono (Kd.R_far (p := ⟨gb442, 3, none⟩) (Kd.R_far (p := ⟨gb442, 2, none⟩) (Kd.R_far (p := ⟨gb442, 1, none⟩) (Kd.R_far (p := ⟨gb442, 0, none⟩) (Kd.R_types HO398.out BK442.out (by decide)) (fun _ hk => hk.2) (.int .i64 t435)) (fun _ hk => hk.2) (.int .i64 t436)) (fun _ hk => hk.2) (.int .i64 t437)) (fun _ hk => hk.2) (.slice Ao93 t438.length co93)) (fun _ hk => ⟨hk.1.2.2.2.2.2.2.2.1, ⟨hk.1.2.2.2.2.2.2.2.2, ⟨hk.1.1, ⟨hk.1.2.1, ⟨hk.1.2.2.1, ⟨hk.1.2.2.2.1, ⟨hk.1.2.2.2.2.1, ⟨hk.1.2.2.2.2.2.1, hk.1.2.2.2.2.2.2.1⟩⟩⟩⟩⟩⟩⟩⟩)⟩
      have n4_ : Aside0 (Kd.R (Kd.int .u64) 33 ((((w89.setCell ⟨gb442, 0, none⟩ (.int .i64 t435)).setCell ⟨gb442, 1, none⟩ (.int .i64 t436)).setCell ⟨gb442, 2, none⟩ (.int .i64 t437)).setCell ⟨gb442, 3, none⟩ (.slice Ao93 t438.length co93)) w.heap.size (fun k_ => some k_ ≠ (.slice Ao16 t374.length co16 : Value).ownBlock ∧ some k_ ≠ (.slice Ao21 t381.length co21 : Value).ownBlock ∧ some k_ ≠ (v391 : Value).ownBlock ∧ some k_ ≠ (.slice Ao52 t396.length co52 : Value).ownBlock ∧ some k_ ≠ (.slice Ao64 t410.length co64 : Value).ownBlock ∧ some k_ ≠ (.slice Ao80 t418.length co80 : Value).ownBlock ∧ some k_ ≠ (v427 : Value).ownBlock ∧ some k_ ≠ (v433 : Value).ownBlock ∧ some k_ ≠ (.slice Ao93 t438.length co93 : Value).ownBlock) v405 t404) := ⟨by (with_reducible repeat (first | apply Kd.R_alloc | apply Kd.R_drewN | apply Kd.R_drew)); exact Kd.R_mono (Kd.R_far (p := ⟨gb442, 3, none⟩) (Kd.R_far (p := ⟨gb442, 2, none⟩) (Kd.R_far (p := ⟨gb442, 1, none⟩) (Kd.R_far (p := ⟨gb442, 0, none⟩) (Kd.R_types HO406.out BK442.out (by decide)) (fun _ hk => hk.2) (.int .i64 t435)) (fun _ hk => hk.2) (.int .i64 t436)) (fun _ hk => hk.2) (.int .i64 t437)) (fun _ hk => hk.2) (.slice Ao93 t438.length co93)) (fun _ hk => ⟨hk.1.2.2.2.2.2.2.2.1, ⟨hk.1.2.2.2.2.2.2.2.2, ⟨hk.1.1, ⟨hk.1.2.1, ⟨hk.1.2.2.1, ⟨hk.1.2.2.2.1, ⟨hk.1.2.2.2.2.1, ⟨hk.1.2.2.2.2.2.1, hk.1.2.2.2.2.2.2.1⟩⟩⟩⟩⟩⟩⟩⟩)⟩
      have n5_ : Aside0 (Kd.R (Kd.int .u64) 33 ((((w89.setCell ⟨gb442, 0, none⟩ (.int .i64 t435)).setCell ⟨gb442, 1, none⟩ (.int .i64 t436)).setCell ⟨gb442, 2, none⟩ (.int .i64 t437)).setCell ⟨gb442, 3, none⟩ (.slice Ao93 t438.length co93)) w.heap.size (fun k_ => some k_ ≠ (.slice Ao16 t374.length co16 : Value).ownBlock ∧ some k_ ≠ (.slice Ao21 t381.length co21 : Value).ownBlock ∧ some k_ ≠ (v391 : Value).ownBlock ∧ some k_ ≠ (.slice Ao52 t396.length co52 : Value).ownBlock ∧ some k_ ≠ (v405 : Value).ownBlock ∧ some k_ ≠ (.slice Ao80 t418.length co80 : Value).ownBlock ∧ some k_ ≠ (v427 : Value).ownBlock ∧ some k_ ≠ (v433 : Value).ownBlock ∧ some k_ ≠ (.slice Ao93 t438.length co93 : Value).ownBlock) (.slice Ao64 t410.length co64) t410) := ⟨by (with_reducible repeat (first | apply Kd.R_alloc | apply Kd.R_drewN | apply Kd.R_drew)); exact Kd.R_mono (Kd.R_far (p := ⟨gb442, 3, none⟩) (Kd.R_far (p := ⟨gb442, 2, none⟩) (Kd.R_far (p := ⟨gb442, 1, none⟩) (Kd.R_far (p := ⟨gb442, 0, none⟩) (Kd.R_types HO412.out BK442.out (by decide)) (fun _ hk => hk.2) (.int .i64 t435)) (fun _ hk => hk.2) (.int .i64 t436)) (fun _ hk => hk.2) (.int .i64 t437)) (fun _ hk => hk.2) (.slice Ao93 t438.length co93)) (fun _ hk => ⟨hk.1.2.2.2.2.2.2.2.1, ⟨hk.1.2.2.2.2.2.2.2.2, ⟨hk.1.1, ⟨hk.1.2.1, ⟨hk.1.2.2.1, ⟨hk.1.2.2.2.1, ⟨hk.1.2.2.2.2.1, ⟨hk.1.2.2.2.2.2.1, hk.1.2.2.2.2.2.2.1⟩⟩⟩⟩⟩⟩⟩⟩)⟩
      have n6_ : Aside0 (Kd.R (Kd.int .u64) 33 ((((w89.setCell ⟨gb442, 0, none⟩ (.int .i64 t435)).setCell ⟨gb442, 1, none⟩ (.int .i64 t436)).setCell ⟨gb442, 2, none⟩ (.int .i64 t437)).setCell ⟨gb442, 3, none⟩ (.slice Ao93 t438.length co93)) w.heap.size (fun k_ => some k_ ≠ (.slice Ao16 t374.length co16 : Value).ownBlock ∧ some k_ ≠ (.slice Ao21 t381.length co21 : Value).ownBlock ∧ some k_ ≠ (v391 : Value).ownBlock ∧ some k_ ≠ (.slice Ao52 t396.length co52 : Value).ownBlock ∧ some k_ ≠ (v405 : Value).ownBlock ∧ some k_ ≠ (.slice Ao64 t410.length co64 : Value).ownBlock ∧ some k_ ≠ (v427 : Value).ownBlock ∧ some k_ ≠ (v433 : Value).ownBlock ∧ some k_ ≠ (.slice Ao93 t438.length co93 : Value).ownBlock) (.slice Ao80 t418.length co80) t418) := ⟨by (with_reducible repeat (first | apply Kd.R_alloc | apply Kd.R_drewN | apply Kd.R_drew)); exact Kd.R_mono (Kd.R_far (p := ⟨gb442, 3, none⟩) (Kd.R_far (p := ⟨gb442, 2, none⟩) (Kd.R_far (p := ⟨gb442, 1, none⟩) (Kd.R_far (p := ⟨gb442, 0, none⟩) (Kd.R_types HO420.out BK442.out (by decide)) (fun _ hk => hk.2) (.int .i64 t435)) (fun _ hk => hk.2) (.int .i64 t436)) (fun _ hk => hk.2) (.int .i64 t437)) (fun _ hk => hk.2) (.slice Ao93 t438.length co93)) (fun _ hk => ⟨hk.1.2.2.2.2.2.2.2.1, ⟨hk.1.2.2.2.2.2.2.2.2, ⟨hk.1.1, ⟨hk.1.2.1, ⟨hk.1.2.2.1, ⟨hk.1.2.2.2.1, ⟨hk.1.2.2.2.2.1, ⟨hk.1.2.2.2.2.2.1, hk.1.2.2.2.2.2.2.1⟩⟩⟩⟩⟩⟩⟩⟩)⟩
      have n7_ : Aside0 (Kd.R (Kd.int .u64) 33 ((((w89.setCell ⟨gb442, 0, none⟩ (.int .i64 t435)).setCell ⟨gb442, 1, none⟩ (.int .i64 t436)).setCell ⟨gb442, 2, none⟩ (.int .i64 t437)).setCell ⟨gb442, 3, none⟩ (.slice Ao93 t438.length co93)) w.heap.size (fun k_ => some k_ ≠ (.slice Ao16 t374.length co16 : Value).ownBlock ∧ some k_ ≠ (.slice Ao21 t381.length co21 : Value).ownBlock ∧ some k_ ≠ (v391 : Value).ownBlock ∧ some k_ ≠ (.slice Ao52 t396.length co52 : Value).ownBlock ∧ some k_ ≠ (v405 : Value).ownBlock ∧ some k_ ≠ (.slice Ao64 t410.length co64 : Value).ownBlock ∧ some k_ ≠ (.slice Ao80 t418.length co80 : Value).ownBlock ∧ some k_ ≠ (v433 : Value).ownBlock ∧ some k_ ≠ (.slice Ao93 t438.length co93 : Value).ownBlock) v427 t426) := ⟨by (with_reducible repeat (first | apply Kd.R_alloc | apply Kd.R_drewN | apply Kd.R_drew)); exact Kd.R_mono (Kd.R_far (p := ⟨gb442, 3, none⟩) (Kd.R_far (p := ⟨gb442, 2, none⟩) (Kd.R_far (p := ⟨gb442, 1, none⟩) (Kd.R_far (p := ⟨gb442, 0, none⟩) (Kd.R_types HO428.out BK442.out (by decide)) (fun _ hk => hk.2) (.int .i64 t435)) (fun _ hk => hk.2) (.int .i64 t436)) (fun _ hk => hk.2) (.int .i64 t437)) (fun _ hk => hk.2) (.slice Ao93 t438.length co93)) (fun _ hk => ⟨hk.1.2.2.2.2.2.2.2.1, ⟨hk.1.2.2.2.2.2.2.2.2, ⟨hk.1.1, ⟨hk.1.2.1, ⟨hk.1.2.2.1, ⟨hk.1.2.2.2.1, ⟨hk.1.2.2.2.2.1, ⟨hk.1.2.2.2.2.2.1, hk.1.2.2.2.2.2.2.1⟩⟩⟩⟩⟩⟩⟩⟩)⟩
      have n8_ : Aside0 (Kd.R (Kd.int .u64) 33 ((((w89.setCell ⟨gb442, 0, none⟩ (.int .i64 t435)).setCell ⟨gb442, 1, none⟩ (.int .i64 t436)).setCell ⟨gb442, 2, none⟩ (.int .i64 t437)).setCell ⟨gb442, 3, none⟩ (.slice Ao93 t438.length co93)) w.heap.size (fun k_ => some k_ ≠ (.slice Ao16 t374.length co16 : Value).ownBlock ∧ some k_ ≠ (.slice Ao21 t381.length co21 : Value).ownBlock ∧ some k_ ≠ (v391 : Value).ownBlock ∧ some k_ ≠ (.slice Ao52 t396.length co52 : Value).ownBlock ∧ some k_ ≠ (v405 : Value).ownBlock ∧ some k_ ≠ (.slice Ao64 t410.length co64 : Value).ownBlock ∧ some k_ ≠ (.slice Ao80 t418.length co80 : Value).ownBlock ∧ some k_ ≠ (v427 : Value).ownBlock ∧ some k_ ≠ (.slice Ao93 t438.length co93 : Value).ownBlock) v433 t432) := ⟨by (with_reducible repeat (first | apply Kd.R_alloc | apply Kd.R_drewN | apply Kd.R_drew)); exact Kd.R_mono (Kd.R_far (p := ⟨gb442, 3, none⟩) (Kd.R_far (p := ⟨gb442, 2, none⟩) (Kd.R_far (p := ⟨gb442, 1, none⟩) (Kd.R_far (p := ⟨gb442, 0, none⟩) (Kd.R_types HO434.out BK442.out (by decide)) (fun _ hk => hk.2) (.int .i64 t435)) (fun _ hk => hk.2) (.int .i64 t436)) (fun _ hk => hk.2) (.int .i64 t437)) (fun _ hk => hk.2) (.slice Ao93 t438.length co93)) (fun _ hk => ⟨hk.1.2.2.2.2.2.2.2.1, ⟨hk.1.2.2.2.2.2.2.2.2, ⟨hk.1.1, ⟨hk.1.2.1, ⟨hk.1.2.2.1, ⟨hk.1.2.2.2.1, ⟨hk.1.2.2.2.2.1, ⟨hk.1.2.2.2.2.2.1, hk.1.2.2.2.2.2.2.1⟩⟩⟩⟩⟩⟩⟩⟩)⟩
      have n9_ : Aside0 (Kd.R (Kd.int .u64) 33 ((((w89.setCell ⟨gb442, 0, none⟩ (.int .i64 t435)).setCell ⟨gb442, 1, none⟩ (.int .i64 t436)).setCell ⟨gb442, 2, none⟩ (.int .i64 t437)).setCell ⟨gb442, 3, none⟩ (.slice Ao93 t438.length co93)) w.heap.size (fun k_ => some k_ ≠ (.slice Ao16 t374.length co16 : Value).ownBlock ∧ some k_ ≠ (.slice Ao21 t381.length co21 : Value).ownBlock ∧ some k_ ≠ (v391 : Value).ownBlock ∧ some k_ ≠ (.slice Ao52 t396.length co52 : Value).ownBlock ∧ some k_ ≠ (v405 : Value).ownBlock ∧ some k_ ≠ (.slice Ao64 t410.length co64 : Value).ownBlock ∧ some k_ ≠ (.slice Ao80 t418.length co80 : Value).ownBlock ∧ some k_ ≠ (v427 : Value).ownBlock ∧ some k_ ≠ (v433 : Value).ownBlock) (.slice Ao93 t438.length co93) t438) := ⟨by (with_reducible repeat (first | apply Kd.R_alloc | apply Kd.R_drewN | apply Kd.R_drew)); exact Kd.R_mono (Kd.R_far (p := ⟨gb442, 3, none⟩) (Kd.R_far (p := ⟨gb442, 2, none⟩) (Kd.R_far (p := ⟨gb442, 1, none⟩) (Kd.R_far (p := ⟨gb442, 0, none⟩) (Kd.R_types HO440.out BK442.out (by decide)) (fun _ hk => hk.2) (.int .i64 t435)) (fun _ hk => hk.2) (.int .i64 t436)) (fun _ hk => hk.2) (.int .i64 t437)) (fun _ hk => hk.2) (.slice Ao93 t438.length co93)) (fun _ hk => ⟨hk.1.2.2.2.2.2.2.2.1, ⟨hk.1.2.2.2.2.2.2.2.2, ⟨hk.1.1, ⟨hk.1.2.1, ⟨hk.1.2.2.1, ⟨hk.1.2.2.2.1, ⟨hk.1.2.2.2.2.1, ⟨hk.1.2.2.2.2.2.1, hk.1.2.2.2.2.2.2.1⟩⟩⟩⟩⟩⟩⟩⟩)⟩
      have n10_ : Aside0 (((((w89.setCell ⟨gb442, 0, none⟩ (.int .i64 t435)).setCell ⟨gb442, 1, none⟩ (.int .i64 t436)).setCell ⟨gb442, 2, none⟩ (.int .i64 t437)).setCell ⟨gb442, 3, none⟩ (.slice Ao93 t438.length co93)).heap[gb377]? = some (.cells #[.int .i64 t371, .int .i64 t372, .int .i64 t373, .slice Ao16 t374.length co16] 25 (0, 0))) := ⟨bf BK377 NB377_442⟩
      have n11_ : Aside0 (((((w89.setCell ⟨gb442, 0, none⟩ (.int .i64 t435)).setCell ⟨gb442, 1, none⟩ (.int .i64 t436)).setCell ⟨gb442, 2, none⟩ (.int .i64 t437)).setCell ⟨gb442, 3, none⟩ (.slice Ao93 t438.length co93)).heap[gb384]? = some (.cells #[.int .i64 t378, .int .i64 t379, .int .i64 t380, .slice Ao21 t381.length co21] 25 (0, 0))) := ⟨bf BK384 NB384_442⟩
      have n12_ : Aside0 (((((w89.setCell ⟨gb442, 0, none⟩ (.int .i64 t435)).setCell ⟨gb442, 1, none⟩ (.int .i64 t436)).setCell ⟨gb442, 2, none⟩ (.int .i64 t437)).setCell ⟨gb442, 3, none⟩ (.slice Ao93 t438.length co93)).heap[gb400]? = some (.cells #[.int .i64 t393, .int .i64 t394, .int .i64 t395, .slice Ao52 t396.length co52] 25 (0, 0))) := ⟨bf BK400 NB400_442⟩
      have n13_ : Aside0 (((((w89.setCell ⟨gb442, 0, none⟩ (.int .i64 t435)).setCell ⟨gb442, 1, none⟩ (.int .i64 t436)).setCell ⟨gb442, 2, none⟩ (.int .i64 t437)).setCell ⟨gb442, 3, none⟩ (.slice Ao93 t438.length co93)).heap[gb414]? = some (.cells #[.int .i64 t407, .int .i64 t408, .int .i64 t409, .slice Ao64 t410.length co64] 25 (0, 0))) := ⟨bf BK414 NB414_442⟩
      have n14_ : Aside0 (((((w89.setCell ⟨gb442, 0, none⟩ (.int .i64 t435)).setCell ⟨gb442, 1, none⟩ (.int .i64 t436)).setCell ⟨gb442, 2, none⟩ (.int .i64 t437)).setCell ⟨gb442, 3, none⟩ (.slice Ao93 t438.length co93)).heap[gb422]? = some (.cells #[.int .i64 t415, .int .i64 t416, .int .i64 t417, .slice Ao80 t418.length co80] 25 (0, 0))) := ⟨bf BK422 NB422_442⟩
      have n15_ : Aside0 (((((w89.setCell ⟨gb442, 0, none⟩ (.int .i64 t435)).setCell ⟨gb442, 1, none⟩ (.int .i64 t436)).setCell ⟨gb442, 2, none⟩ (.int .i64 t437)).setCell ⟨gb442, 3, none⟩ (.slice Ao93 t438.length co93)).heap[gb442]? = some (.cells #[.int .i64 t435, .int .i64 t436, .int .i64 t437, .slice Ao93 t438.length co93] 25 (0, 0))) := ⟨bp BK442⟩
      have n16_ : Aside0 (Below w.heap.size w ((((w89.setCell ⟨gb442, 0, none⟩ (.int .i64 t435)).setCell ⟨gb442, 1, none⟩ (.int .i64 t436)).setCell ⟨gb442, 2, none⟩ (.int .i64 t437)).setCell ⟨gb442, 3, none⟩ (.slice Ao93 t438.length co93))) := ⟨bes⟩
      (try clear HO_378003)
      (try clear HO_385003)
      (try clear HO392)
      (try clear HO398)
      (try clear HO406)
      (try clear HO412)
      (try clear HO420)
      (try clear HO428)
      (try clear HO434)
      (try clear HO440)
      (try clear BK377)
      (try clear BK384)
      (try clear BK400)
      (try clear BK414)
      (try clear BK422)
      (try clear BK442)
      (try clear HB)
      generalize ((((w89.setCell ⟨gb442, 0, none⟩ (.int .i64 t435)).setCell ⟨gb442, 1, none⟩ (.int .i64 t436)).setCell ⟨gb442, 2, none⟩ (.int .i64 t437)).setCell ⟨gb442, 3, none⟩ (.slice Ao93 t438.length co93)) = w101 at n0_ n1_ n2_ n3_ n4_ n5_ n6_ n7_ n8_ n9_ n10_ n11_ n12_ n13_ n14_ n15_ n16_ ⊢
      have HO_378003 := n0_
      have HO_385003 := n1_
      have HO392 := n2_
      have HO398 := n3_
      have HO406 := n4_
      have HO412 := n5_
      have HO420 := n6_
      have HO428 := n7_
      have HO434 := n8_
      have HO440 := n9_
      have BK377 := n10_
      have BK384 := n11_
      have BK400 := n12_
      have BK414 := n13_
      have BK422 := n14_
      have BK442 := n15_
      have HB := n16_
      clear n0_ n1_ n2_ n3_ n4_ n5_ n6_ n7_ n8_ n9_ n10_ n11_ n12_ n13_ n14_ n15_ n16_
      refine ax17 (Kd.R_drew HO_378003.out) (Kd.R_drew HO_385003.out) (Kd.R_drew HO392.out) (Kd.R_drew HO398.out) (Kd.R_drew HO406.out) (Kd.R_drew HO412.out) (Kd.R_drew HO420.out) (Kd.R_drew HO428.out) (Kd.R_drew HO434.out) (Kd.R_drew HO440.out) (blk_drew BK377.out) (blk_drew BK384.out) (blk_drew BK400.out) (blk_drew BK414.out) (blk_drew BK422.out) (blk_drew BK442.out) (below_drew1 HB.out) ?_
      clear HO_378003 HO_385003 HO392 HO398 HO406 HO412 HO420 HO428 HO434 HO440 BK377 BK384 BK400 BK414 BK422 BK442 HB
      intro HO_378003 HO_385003 HO392 HO398 HO406 HO412 HO420 HO428 HO434 HO440 BK377 BK384 BK400 BK414 BK422 BK442 HB
      refine start_ (n := 21) (S := fun w' => w'.cell? ⟨gb422, 0, none⟩ = some (.int .i64 t415) ∧ w'.cell? ⟨gb422, 1, none⟩ = some (.int .i64 t416) ∧ w'.cell? ⟨gb422, 2, none⟩ = some (.int .i64 t417) ∧ w'.cell? ⟨gb422, 3, none⟩ = some (.slice Ao80 t418.length co80) ∧ w'.cell? ⟨gb442, 0, none⟩ = some (.int .i64 t435) ∧ w'.cell? ⟨gb442, 1, none⟩ = some (.int .i64 t436) ∧ w'.cell? ⟨gb442, 2, none⟩ = some (.int .i64 t437) ∧ w'.cell? ⟨gb442, 3, none⟩ = some (.slice Ao93 t438.length co93)) (ds := []) #[false, false, false, false, false, false, false, false, false, false, false, false, false, false, false, false, false, false, false, false, false] (by kernel_rfl) rfl rfl ⟨bk BK422 0, bk BK422 1, bk BK422 2, bk BK422 3, bk BK442 0, bk BK442 1, bk BK442 2, bk BK442 3⟩ (fun hHeld => ?_); refine with_tabW gimballaw11_MulOnes.tab13 gimballaw11_MulOnes.bits13 (fun HT_ HW_ => ?_)
      generalize w101.drew = w102 at HO_378003 HO_385003 HO392 HO398 HO406 HO412 HO420 HO428 HO434 HO440 BK377 BK384 BK400 BK414 BK422 BK442 HB hHeld ⊢
      refine pu 0 75 (lm 21 1) HT_ ?_
      refine pu 1 76 (lm 21 3) HT_ ?_
      refine pu 2 77 (lm 21 7) HT_ ?_
      refine pu 3 78 (lm 21 15) HT_ ?_
      refine pu 4 79 (lm 21 31) HT_ ?_
      refine pu 5 80 (lm 21 63) HT_ ?_
      refine pu 6 81 (lm 21 127) HT_ ?_
      refine pu 7 82 (lm 21 255) HT_ ?_
      refine pu 8 83 (lm 21 511) HT_ ?_
      refine pu 9 84 (lm 21 1023) HT_ ?_
      refine pu 10 85 (lm 21 2047) HT_ ?_
      refine pu 11 86 (lm 21 4095) HT_ ?_
      refine pu 12 87 (lm 21 8191) HT_ ?_
      refine pu 13 88 (lm 21 16383) HT_ ?_
      refine pu 14 89 (lm 21 32767) HT_ ?_
      refine ta 15 90 (lm 21 65535) HT_ HW_ hHeld ?_
      refine ta 17 92 (lm 21 196607) HT_ HW_ hHeld ?_
      refine on 16 (some 91) (lm 21 262143) HT_ (fun K hK => ?_)
      refine goes_ Try.func10 (by kernel_rfl) rfl #[.agg #[.int .i64 t415, .int .i64 t416, .int .i64 t417, .slice Ao80 t418.length co80]] (by rfl) rfl rfl ga ?_
      with_reducible refine (mat_Matrix_Turn.calls kj10 t415 t416 t417 _ _ t418 t443 t444 t445 t446 _ ?side1 ?side2 A99.out).mono ?_
      (case side1 => exact ks HO420)
      (case side2 => exact (Kd.R_reads' HO420.out).2.1)
      rintro e w103 ⟨v447, rfl, ho0, hb⟩
      refine ⟨_, rfl, ?_⟩
      refine ax18 (Kd.R_elder' (kr HO_378003) (Kd.R_base ho0) hb) (Kd.R_elder' (kr HO_385003) (Kd.R_base ho0) hb) (Kd.R_elder' (kr HO392) (Kd.R_base ho0) hb) (Kd.R_elder' (kr HO398) (Kd.R_base ho0) hb) (Kd.R_elder' (kr HO406) (Kd.R_base ho0) hb) (Kd.R_elder' (kr HO412) (Kd.R_base ho0) hb) (Kd.R_elder' (kr HO420) (Kd.R_base ho0) hb) (Kd.R_elder' (kr HO428) (Kd.R_base ho0) hb) (Kd.R_elder' (kr HO434) (Kd.R_base ho0) hb) (Kd.R_elder' (kr HO440) (Kd.R_base ho0) hb) (Kd.R_lower (Kd.R_new' (Kd.R_new' (Kd.R_new' (Kd.R_new' (Kd.R_new' (Kd.R_new' (Kd.R_new' (Kd.R_new' (Kd.R_new' (Kd.R_new' ho0 (Kd.R_lt (kr HO_378003))) (Kd.R_lt (kr HO_385003))) (Kd.R_lt (kr HO392))) (Kd.R_lt (kr HO398))) (Kd.R_lt (kr HO406))) (Kd.R_lt (kr HO412))) (Kd.R_lt (kr HO420))) (Kd.R_lt (kr HO428))) (Kd.R_lt (kr HO434))) (Kd.R_lt (kr HO440))) (below_size bes)) (bb BK377 hb) (bb BK384 hb) (bb BK400 hb) (bb BK414 hb) (bb BK422 hb) (bb BK442 hb) (below_step bes hb) ?_
      clear HO_378003 HO_385003 HO392 HO398 HO406 HO412 HO420 HO428 HO434 HO440 BK377 BK384 BK400 BK414 BK422 BK442 HB
      intro HO_378003 HO_385003 HO392 HO398 HO406 HO412 HO420 HO428 HO434 HO440 HO448 BK377 BK384 BK400 BK414 BK422 BK442 HB
      (try clear hb)
      (try clear hb2)
      (try clear hk)
      (try clear hi)
      (try clear ho0)
      obtain ⟨Ao104, co104, eo104⟩ := Kd.R_slice HO448.out
      (first | subst eo104 | (injection eo104 with f1_ f2_ f3_; have f4_ := f1_.symm; have f5_ := f3_.symm; clear f1_ f2_ f3_; subst f4_; subst f5_))
      refine hK.out _ _ ⟨bk BK422 0, bk BK422 1, bk BK422 2, bk BK422 3, bk BK442 0, bk BK442 1, bk BK442 2, bk BK442 3⟩ (fun hHeld => ?_)
      clear hK K
      refine no 91 ?_
      refine on 18 (some 93) (lm 21 524287) HT_ (fun K hK => ?_)
      refine goes_ Try.func11 (by kernel_rfl) rfl #[.agg #[.int .i64 t443, .int .i64 t444, .int .i64 t445, .slice Ao104 t446.length co104], .agg #[.int .i64 t435, .int .i64 t436, .int .i64 t437, .slice Ao93 t438.length co93]] (by rfl) rfl rfl ga ?_
      with_reducible refine (mat_Matrix_Same.calls kj10 t443 t444 t445 _ _ t446 t435 t436 t437 _ _ t438 t449 _ ?side1 ?side2 ?side3 ?side4 A100.out).mono ?_
      (case side1 => exact ks HO448)
      (case side2 => exact (Kd.R_reads' HO448.out).2.1)
      (case side3 => exact ks HO440)
      (case side4 => exact (Kd.R_reads' HO440.out).2.1)
      rintro e w105 ⟨rfl, hb⟩
      refine ⟨_, rfl, ?_⟩
      refine ax18 (Kd.R_below (kr HO_378003) hb) (Kd.R_below (kr HO_385003) hb) (Kd.R_below (kr HO392) hb) (Kd.R_below (kr HO398) hb) (Kd.R_below (kr HO406) hb) (Kd.R_below (kr HO412) hb) (Kd.R_below (kr HO420) hb) (Kd.R_below (kr HO428) hb) (Kd.R_below (kr HO434) hb) (Kd.R_below (kr HO440) hb) (Kd.R_below (kr HO448) hb) (bb BK377 hb) (bb BK384 hb) (bb BK400 hb) (bb BK414 hb) (bb BK422 hb) (bb BK442 hb) (below_step bes hb) ?_
      clear HO_378003 HO_385003 HO392 HO398 HO406 HO412 HO420 HO428 HO434 HO440 HO448 BK377 BK384 BK400 BK414 BK422 BK442 HB
      intro HO_378003 HO_385003 HO392 HO398 HO406 HO412 HO420 HO428 HO434 HO440 HO448 BK377 BK384 BK400 BK414 BK422 BK442 HB
      (try clear hb)
      (try clear hb2)
      (try clear hk)
      (try clear hi)
      refine hK.out _ _ ⟨bk BK422 0, bk BK422 1, bk BK422 2, bk BK422 3, bk BK442 0, bk BK442 1, bk BK442 2, bk BK442 3⟩ (fun hHeld => ?_)
      clear hK K
      refine no 93 ?_
      refine pu 19 94 (lm 21 1048575) HT_ ?_
      refine pu 20 95 (lm 21 2097151) HT_ ?_
      refine done_ (done_of HT_.out (by kernel_rfl)) ?_
      try go_wp2
      go_meet
      case rel => exact ⟨_, (!t449), (by first | rfl | (simp; done) | (simp [*]; done)), H', ⟨by have := HJ10.out; first | omega | exact Nat.le_refl _⟩, ⟨by (with_reducible repeat (first | apply Kd.R_alloc | apply Kd.R_drewN | apply Kd.R_drew)); exact Kd.R_mono HO_378003.out (fun _ hk => ⟨hk.1.1, ⟨hk.1.2.2.1, ⟨hk.1.2.2.2.2.1, ⟨hk.1.2.2.2.2.2.1, hk.1.2.2.2.2.2.2.2.2⟩⟩⟩⟩)⟩, ⟨by (with_reducible repeat (first | apply Kd.R_alloc | apply Kd.R_drewN | apply Kd.R_drew)); exact Kd.R_mono HO_385003.out (fun _ hk => ⟨hk.1.1, ⟨hk.1.2.2.1, ⟨hk.1.2.2.2.2.1, ⟨hk.1.2.2.2.2.2.1, hk.1.2.2.2.2.2.2.2.2⟩⟩⟩⟩)⟩, ⟨by (with_reducible repeat (first | apply Kd.R_alloc | apply Kd.R_drewN | apply Kd.R_drew)); exact Kd.R_mono HO398.out (fun _ hk => ⟨hk.1.1, ⟨hk.1.2.1, ⟨hk.1.2.2.2.2.1, ⟨hk.1.2.2.2.2.2.1, hk.1.2.2.2.2.2.2.2.2⟩⟩⟩⟩)⟩, ⟨by (with_reducible repeat (first | apply Kd.R_alloc | apply Kd.R_drewN | apply Kd.R_drew)); exact Kd.R_mono HO412.out (fun _ hk => ⟨hk.1.1, ⟨hk.1.2.1, ⟨hk.1.2.2.2.1, ⟨hk.1.2.2.2.2.2.1, hk.1.2.2.2.2.2.2.2.2⟩⟩⟩⟩)⟩, ⟨by (with_reducible repeat (first | apply Kd.R_alloc | apply Kd.R_drewN | apply Kd.R_drew)); exact Kd.R_mono HO420.out (fun _ hk => ⟨hk.1.1, ⟨hk.1.2.1, ⟨hk.1.2.2.2.1, ⟨hk.1.2.2.2.2.2.1, hk.1.2.2.2.2.2.2.2.2⟩⟩⟩⟩)⟩, ⟨by (with_reducible repeat (first | apply Kd.R_alloc | apply Kd.R_drewN | apply Kd.R_drew)); exact Kd.R_mono HO440.out (fun _ hk => ⟨hk.1.1, ⟨hk.1.2.1, ⟨hk.1.2.2.2.1, ⟨hk.1.2.2.2.2.2.1, hk.1.2.2.2.2.2.2.1⟩⟩⟩⟩)⟩, ⟨kb BK377⟩, ⟨kb BK384⟩, ⟨kb BK400⟩, ⟨kb BK414⟩, ⟨kb BK422⟩, ⟨kb BK442⟩, ⟨bes⟩⟩
     case rest => as_aux_lemma =>
      clear HC42
      try clear c1
      try clear p2
      try clear c9
      try clear c10
      try clear c11
      try clear c95
      try clear c95b0
      try clear c95b1
      try clear c96
      try clear c96b0
      try clear c96b1
      try clear c97
      try clear c97b0
      try clear c97b1
      try clear c98
      try clear c98b0
      try clear c98b1
      obtain ⟨kq, x95_41, rfl, HA, HJ41, HO_378003, HO_385003, HO_401003, HO_415003, HO_423003, HO_443003, BK377, BK384, BK400, BK414, BK422, BK442, HB⟩ := hcut
      cases kq with
      | zero => exact absurd HA.out (by simp [gimballaw11_MulOnes.j1])
      | succ kj41 =>
       have H := HA.out
       clear HA
       simp only [gimballaw11_MulOnes.j1] at H
       by_cases c106 : x95_41 = true
       ·
        subst c106
        rw [if_pos rfl] at H
        rw [hLW] at H
        exact absurd H (by simp)
       ·
        replace c106 := Bool.eq_false_iff.mpr c106
        subst c106
        rw [if_neg (show ¬ (false = true) by decide)] at H
        have H' := Aside0.mk H
        clear H
        have hnb107 := NB377_384.out
        have hnc107 := NB384_377.out
        have hnb108 := NB377_400.out
        have hnc108 := NB400_377.out
        have hnb109 := NB377_414.out
        have hnc109 := NB414_377.out
        have hnb110 := NB377_422.out
        have hnc110 := NB422_377.out
        have hnb111 := NB377_442.out
        have hnc111 := NB442_377.out
        have hcz112_0 := bc BK377 0 rfl
        have hcz112_1 := bc BK377 1 rfl
        have hcz112_2 := bc BK377 2 rfl
        have hcz112_3 := bc BK377 3 rfl
        have hfz112_0 := blk_frozen BK377.out 0
        have hfz112_1 := blk_frozen BK377.out 1
        have hfz112_2 := blk_frozen BK377.out 2
        have hfz112_3 := blk_frozen BK377.out 3
        go_wp2
        go_loopg [99] kj41 (fun kq v99 w' => ∃ (x99_3 : Int), v99 = .int .i64 x99_3 ∧ Aside0 (gimballaw11_MulOnes.l0 kq (t374.length : Int) x99_3 t371 t372 t373 t374 t393 t394 t395 t396 t407 t408 t409 t410 = some r) ∧ Aside0 (kq ≤ kj41) ∧ Aside0 (Kd.R (Kd.int .u64) 33 w' w.heap.size (fun k_ => some k_ ≠ ((.slice Ao21 t381.length co21) : Value).ownBlock ∧ some k_ ≠ ((.slice Ao52 t396.length co52) : Value).ownBlock ∧ some k_ ≠ ((.slice Ao64 t410.length co64) : Value).ownBlock ∧ some k_ ≠ ((.slice Ao80 t418.length co80) : Value).ownBlock ∧ some k_ ≠ ((.slice Ao93 t438.length co93) : Value).ownBlock) (.slice Ao16 t374.length co16) t374) ∧ Aside0 (Kd.R (Kd.int .u64) 33 w' w.heap.size (fun k_ => some k_ ≠ ((.slice Ao16 t374.length co16) : Value).ownBlock ∧ some k_ ≠ ((.slice Ao52 t396.length co52) : Value).ownBlock ∧ some k_ ≠ ((.slice Ao64 t410.length co64) : Value).ownBlock ∧ some k_ ≠ ((.slice Ao80 t418.length co80) : Value).ownBlock ∧ some k_ ≠ ((.slice Ao93 t438.length co93) : Value).ownBlock) (.slice Ao21 t381.length co21) t381) ∧ Aside0 (Kd.R (Kd.int .u64) 33 w' w.heap.size (fun k_ => some k_ ≠ ((.slice Ao16 t374.length co16) : Value).ownBlock ∧ some k_ ≠ ((.slice Ao21 t381.length co21) : Value).ownBlock ∧ some k_ ≠ ((.slice Ao64 t410.length co64) : Value).ownBlock ∧ some k_ ≠ ((.slice Ao80 t418.length co80) : Value).ownBlock ∧ some k_ ≠ ((.slice Ao93 t438.length co93) : Value).ownBlock) (.slice Ao52 t396.length co52) t396) ∧ Aside0 (Kd.R (Kd.int .u64) 33 w' w.heap.size (fun k_ => some k_ ≠ ((.slice Ao16 t374.length co16) : Value).ownBlock ∧ some k_ ≠ ((.slice Ao21 t381.length co21) : Value).ownBlock ∧ some k_ ≠ ((.slice Ao52 t396.length co52) : Value).ownBlock ∧ some k_ ≠ ((.slice Ao80 t418.length co80) : Value).ownBlock ∧ some k_ ≠ ((.slice Ao93 t438.length co93) : Value).ownBlock) (.slice Ao64 t410.length co64) t410) ∧ Aside0 (Kd.R (Kd.int .u64) 33 w' w.heap.size (fun k_ => some k_ ≠ ((.slice Ao16 t374.length co16) : Value).ownBlock ∧ some k_ ≠ ((.slice Ao21 t381.length co21) : Value).ownBlock ∧ some k_ ≠ ((.slice Ao52 t396.length co52) : Value).ownBlock ∧ some k_ ≠ ((.slice Ao64 t410.length co64) : Value).ownBlock ∧ some k_ ≠ ((.slice Ao93 t438.length co93) : Value).ownBlock) (.slice Ao80 t418.length co80) t418) ∧ Aside0 (Kd.R (Kd.int .u64) 33 w' w.heap.size (fun k_ => some k_ ≠ ((.slice Ao16 t374.length co16) : Value).ownBlock ∧ some k_ ≠ ((.slice Ao21 t381.length co21) : Value).ownBlock ∧ some k_ ≠ ((.slice Ao52 t396.length co52) : Value).ownBlock ∧ some k_ ≠ ((.slice Ao64 t410.length co64) : Value).ownBlock ∧ some k_ ≠ ((.slice Ao80 t418.length co80) : Value).ownBlock) (.slice Ao93 t438.length co93) t438) ∧ Aside0 (w'.heap[gb377]? = some (.cells #[.int .i64 t371, .int .i64 t372, .int .i64 t373, (.slice Ao16 t374.length co16)] 25 (0, 0))) ∧ Aside0 (w'.heap[gb384]? = some (.cells #[.int .i64 t378, .int .i64 t379, .int .i64 t380, (.slice Ao21 t381.length co21)] 25 (0, 0))) ∧ Aside0 (w'.heap[gb400]? = some (.cells #[.int .i64 t393, .int .i64 t394, .int .i64 t395, (.slice Ao52 t396.length co52)] 25 (0, 0))) ∧ Aside0 (w'.heap[gb414]? = some (.cells #[.int .i64 t407, .int .i64 t408, .int .i64 t409, (.slice Ao64 t410.length co64)] 25 (0, 0))) ∧ Aside0 (w'.heap[gb422]? = some (.cells #[.int .i64 t415, .int .i64 t416, .int .i64 t417, (.slice Ao80 t418.length co80)] 25 (0, 0))) ∧ Aside0 (w'.heap[gb442]? = some (.cells #[.int .i64 t435, .int .i64 t436, .int .i64 t437, (.slice Ao93 t438.length co93)] 25 (0, 0))) ∧ Aside0 (Below w.heap.size w w'))
        case atStart => exact ⟨(0), (by first | rfl | (simp; done) | (simp [*]; done)), H', ⟨Nat.le_refl _⟩, ⟨kr HO_378003⟩, ⟨kr HO_385003⟩, ⟨kr HO_401003⟩, ⟨kr HO_415003⟩, ⟨kr HO_423003⟩, ⟨kr HO_443003⟩, ⟨kb BK377⟩, ⟨kb BK384⟩, ⟨kb BK400⟩, ⟨kb BK414⟩, ⟨kb BK422⟩, ⟨kb BK442⟩, ⟨bes⟩⟩
        case round =>
         clear H'
         try clear c1
         try clear p2
         try clear c9
         try clear c10
         try clear c11
         try clear c95
         try clear c95b0
         try clear c95b1
         try clear c96
         try clear c96b0
         try clear c96b1
         try clear c97
         try clear c97b0
         try clear c97b1
         try clear c98
         try clear c98b0
         try clear c98b1
         try clear c106
         try clear c107
         try clear c108
         try clear c109
         try clear c110
         try clear c111
         try clear hcz112_0
         try clear hcz112_1
         try clear hcz112_2
         try clear hcz112_3
         try clear hfz112_0
         try clear hfz112_1
         try clear hfz112_2
         try clear hfz112_3
         try clear p2
         obtain ⟨x99_3, rfl, HA, HK3, HO_378003, HO_385003, HO_401003, HO_415003, HO_423003, HO_443003, BK377, BK384, BK400, BK414, BK422, BK442, HB⟩ := hrel
         cases gk with
         | zero => exact absurd HA.out (by simp [gimballaw11_MulOnes.l0])
         | succ k3 =>
          have H := HA.out
          clear HA
          simp only [gimballaw11_MulOnes.l0] at H
          by_cases c113 : x99_3 < (t374.length : Int)
          rotate_left
          ·
           rw [if_neg c113] at H
           have c113b0 : decide (x99_3 < (t374.length : Int)) = false := decide_eq_false c113
           clear c113
           obtain rfl := Option.some.inj H
           go_wp2
           go_ret
           exact ⟨er, bes⟩
          rw [if_pos c113] at H
          have c113b0 : decide (x99_3 < (t374.length : Int)) = true := decide_eq_true c113
          clear c113
          by_cases c114 : 0 ≤ x99_3
          rotate_left
          ·
           rw [if_neg c114] at H
           exact absurd H (by simp)
          rw [if_pos c114] at H
          have c114b0 : decide (0 ≤ x99_3) = true := decide_eq_true c114
          clear c114
          by_cases c115 : x99_3 < (t396.length : Int)
          rotate_left
          ·
           rw [if_neg c115] at H
           exact absurd H (by simp)
          rw [if_pos c115] at H
          have c115b0 : decide (x99_3 < (t396.length : Int)) = true := decide_eq_true c115
          clear c115
          by_cases c116 : x99_3 < (t374.length : Int)
          rotate_left
          ·
           rw [if_neg c116] at H
           exact absurd H (by simp)
          rw [if_pos c116] at H
          have c116b0 : decide (x99_3 < (t374.length : Int)) = true := decide_eq_true c116
          clear c116
          by_cases c117 : (rd t396 x99_3) = (rd t374 x99_3)
          ·
           rw [if_pos c117] at H
           have c117b0 : ((rd t396 x99_3) == (rd t374 x99_3)) = true := beq_iff_eq.mpr c117
           have c117b1 : ((rd t396 x99_3) != (rd t374 x99_3)) = false := bne_eq_false_iff_eq.mpr c117
           clear c117
           by_cases c118 : x99_3 < (t410.length : Int)
           rotate_left
           ·
            rw [if_neg c118] at H
            exact absurd H (by simp)
           rw [if_pos c118] at H
           have c118b0 : decide (x99_3 < (t410.length : Int)) = true := decide_eq_true c118
           clear c118
           by_cases c119 : (rd t410 x99_3) = (rd t374 x99_3)
           ·
            rw [if_pos c119] at H
            have c119b0 : ((rd t410 x99_3) == (rd t374 x99_3)) = true := beq_iff_eq.mpr c119
            have c119b1 : ((rd t410 x99_3) != (rd t374 x99_3)) = false := bne_eq_false_iff_eq.mpr c119
            clear c119
            obtain ⟨t455, A1200, H⟩ := Option.bind_eq_some_iff.mp H
            (try dsimp -simprocs only at H)
            have A120 := Aside0.mk A1200
            clear A1200
            obtain ⟨t457, A1210, H⟩ := Option.bind_eq_some_iff.mp H
            (try dsimp -simprocs only at H)
            have A121 := Aside0.mk A1210
            clear A1210
            by_cases c122 : t455 = t457
            rotate_left
            ·
             rw [if_neg c122] at H
             have c122b0 : (t455 == t457) = false := beq_eq_false_iff_ne.mpr c122
             have c122b1 : (t455 != t457) = true := bne_iff_ne.mpr c122
             rw [hLW] at H
             exact absurd H (by simp)
            rw [if_pos c122] at H
            have c122b0 : (t455 == t457) = true := beq_iff_eq.mpr c122
            have c122b1 : (t455 != t457) = false := bne_eq_false_iff_eq.mpr c122
            clear c122
            have H' := Aside0.mk H
            clear H
            try go_wp2
            refine ax13 (Kd.R_drew HO_378003.out) (Kd.R_drew HO_385003.out) (Kd.R_drew HO_401003.out) (Kd.R_drew HO_415003.out) (Kd.R_drew HO_423003.out) (Kd.R_drew HO_443003.out) (blk_drew BK377.out) (blk_drew BK384.out) (blk_drew BK400.out) (blk_drew BK414.out) (blk_drew BK422.out) (blk_drew BK442.out) (below_drew1 HB.out) ?_
            clear HO_378003 HO_385003 HO_401003 HO_415003 HO_423003 HO_443003 BK377 BK384 BK400 BK414 BK422 BK442 HB
            intro HO_378003 HO_385003 HO_401003 HO_415003 HO_423003 HO_443003 BK377 BK384 BK400 BK414 BK422 BK442 HB
            have p450 : 0 ≤ (x99_3 : Int) := of_decide_eq_true (by first | (with_reducible assumption) | assumption)
            have q450 : x99_3 < (t396.length : Int) := of_decide_eq_true (by first | (with_reducible assumption) | assumption)
            obtain ⟨ad450, e450, hx450_0⟩ := Kd.at_int (Kd.R_reads' HO_401003.out).2.2 x99_3 p450 q450
            cases e450
            replace p450 := eq_true p450
            replace q450 := eq_true q450
            have p451 : 0 ≤ (x99_3 : Int) := of_decide_eq_true (by first | (with_reducible assumption) | assumption)
            have q451 : x99_3 < (t374.length : Int) := of_decide_eq_true (by first | (with_reducible assumption) | assumption)
            obtain ⟨ad451, e451, hx451_0⟩ := Kd.at_int (Kd.R_reads' HO_378003.out).2.2 x99_3 p451 q451
            cases e451
            replace p451 := eq_true p451
            replace q451 := eq_true q451
            have p452 : 0 ≤ (x99_3 : Int) := of_decide_eq_true (by first | (with_reducible assumption) | assumption)
            have q452 : x99_3 < (t410.length : Int) := of_decide_eq_true (by first | (with_reducible assumption) | assumption)
            obtain ⟨ad452, e452, hx452_0⟩ := Kd.at_int (Kd.R_reads' HO_415003.out).2.2 x99_3 p452 q452
            cases e452
            replace p452 := eq_true p452
            replace q452 := eq_true q452
            have p453 : 0 ≤ (x99_3 : Int) := of_decide_eq_true (by first | (with_reducible assumption) | assumption)
            have q453 : x99_3 < (t374.length : Int) := of_decide_eq_true (by first | (with_reducible assumption) | assumption)
            obtain ⟨ad453, e453, hx453_0⟩ := Kd.at_int (Kd.R_reads' HO_378003.out).2.2 x99_3 p453 q453
            obtain rfl : ad451 = ad453 := (by injection e453)
            replace p453 := eq_true p453
            replace q453 := eq_true q453
            have p454 : 0 ≤ (x99_3 : Int) := of_decide_eq_true (by first | (with_reducible assumption) | assumption)
            have q454 : x99_3 < (t396.length : Int) := of_decide_eq_true (by first | (with_reducible assumption) | assumption)
            obtain ⟨ad454, e454, hx454_0⟩ := Kd.at_int (Kd.R_reads' HO_401003.out).2.2 x99_3 p454 q454
            obtain rfl : ad450 = ad454 := (by injection e454)
            replace p454 := eq_true p454
            replace q454 := eq_true q454
            have p456 : 0 ≤ (x99_3 : Int) := of_decide_eq_true (by first | (with_reducible assumption) | assumption)
            have q456 : x99_3 < (t374.length : Int) := of_decide_eq_true (by first | (with_reducible assumption) | assumption)
            obtain ⟨ad456, e456, hx456_0⟩ := Kd.at_int (Kd.R_reads' HO_378003.out).2.2 x99_3 p456 q456
            obtain rfl : ad451 = ad456 := (by injection e456)
            replace p456 := eq_true p456
            replace q456 := eq_true q456
            refine start_ (n := 57) (S := fun w' => w'.cell? ⟨gb400, 0, none⟩ = some (.int .i64 t393) ∧ w'.cell? ⟨gb400, 1, none⟩ = some (.int .i64 t394) ∧ w'.cell? ⟨gb400, 2, none⟩ = some (.int .i64 t395) ∧ w'.cell? ⟨gb400, 3, none⟩ = some (.slice (some ad450) t396.length co52) ∧ w'.cell? ⟨gb377, 0, none⟩ = some (.int .i64 t371) ∧ w'.cell? ⟨gb377, 1, none⟩ = some (.int .i64 t372) ∧ w'.cell? ⟨gb377, 2, none⟩ = some (.int .i64 t373) ∧ w'.cell? ⟨gb377, 3, none⟩ = some (.slice (some ad451) t374.length co16) ∧ w'.cell? ⟨gb414, 0, none⟩ = some (.int .i64 t407) ∧ w'.cell? ⟨gb414, 1, none⟩ = some (.int .i64 t408) ∧ w'.cell? ⟨gb414, 2, none⟩ = some (.int .i64 t409) ∧ w'.cell? ⟨gb414, 3, none⟩ = some (.slice (some ad452) t410.length co64) ∧ w'.cell? (ad450.add (x99_3).toNat) = some (.int .u64 (rd t396 x99_3)) ∧ w'.cell? (ad451.add (x99_3).toNat) = some (.int .u64 (rd t374 x99_3)) ∧ w'.cell? (ad452.add (x99_3).toNat) = some (.int .u64 (rd t410 x99_3)) ∧ w'.cell? (ad451.add (x99_3).toNat) = some (.int .u64 (rd t374 x99_3)) ∧ w'.cell? (ad450.add (x99_3).toNat) = some (.int .u64 (rd t396 x99_3)) ∧ w'.cell? (ad451.add (x99_3).toNat) = some (.int .u64 (rd t374 x99_3))) (ds := []) #[false, false, false, false, false, false, false, false, false, false, false, false, false, false, false, false, false, false, false, false, false, false, false, false, false, false, false, false, false, false, false, false, false, false, false, false, false, false, false, false, false, false, false, false, false, false, false, false, false, false, false, false, false, false, false, false, false] (by kernel_rfl) rfl rfl ⟨bk BK400 0, bk BK400 1, bk BK400 2, bk BK400 3, bk BK377 0, bk BK377 1, bk BK377 2, bk BK377 3, bk BK414 0, bk BK414 1, bk BK414 2, bk BK414 3, hx450_0, hx451_0, hx452_0, hx453_0, hx454_0, hx456_0⟩ (fun hHeld => ?_); refine with_tabW gimballaw11_MulOnes.tab18 gimballaw11_MulOnes.bits18 (fun HT_ HW_ => ?_)
            generalize wr.drew = w123 at HO_378003 HO_385003 HO_401003 HO_415003 HO_423003 HO_443003 BK377 BK384 BK400 BK414 BK422 BK442 HB hx450_0 hx451_0 hx452_0 hx453_0 hx454_0 hx456_0 hHeld ⊢
            refine pu 0 102 (lm 57 1) HT_ ?_
            refine pu 2 104 (lm 57 5) HT_ ?_
            refine pu 5 107 (lm 57 37) HT_ ?_
            refine pu 7 109 (lm 57 165) HT_ ?_
            refine ta 1 103 (lm 57 167) HT_ HW_ hHeld ?_
            refine pu 3 105 (lm 57 175) HT_ ?_
            refine ta 4 106 (lm 57 191) HT_ HW_ hHeld ?_
            refine ta 6 108 (lm 57 255) HT_ HW_ hHeld ?_
            refine pu 8 110 (lm 57 511) HT_ ?_
            refine ta 9 111 (lm 57 1023) HT_ HW_ hHeld ?_
            refine pu 10 112 (lm 57 2047) HT_ ?_
            refine pu 11 113 (lm 57 4095) HT_ ?_
            refine po 12 114 (lm 57 8191) HT_ ?_
            refine po 13 115 (lm 57 16383) HT_ ?_
            refine po 14 116 (lm 57 32767) HT_ ?_
            refine po 15 117 (lm 57 65535) HT_ ?_
            refine po 16 118 (lm 57 131071) HT_ ?_
            refine po 17 119 (lm 57 262143) HT_ ?_
            refine po 18 120 (lm 57 524287) HT_ ?_
            refine pu 19 121 (lm 57 1048575) HT_ ?_
            refine pu 20 122 (lm 57 2097151) HT_ ?_
            refine pu 21 123 (lm 57 4194303) HT_ ?_
            refine pu 23 125 (lm 57 12582911) HT_ ?_
            refine pu 26 128 (lm 57 79691775) HT_ ?_
            refine pu 28 130 (lm 57 348127231) HT_ ?_
            refine ta 22 124 (lm 57 352321535) HT_ HW_ hHeld ?_
            refine pu 24 126 (lm 57 369098751) HT_ ?_
            refine ta 25 127 (lm 57 402653183) HT_ HW_ hHeld ?_
            refine ta 27 129 (lm 57 536870911) HT_ HW_ hHeld ?_
            refine pu 29 131 (lm 57 1073741823) HT_ ?_
            refine ta 30 132 (lm 57 2147483647) HT_ HW_ hHeld ?_
            refine pu 31 133 (lm 57 4294967295) HT_ ?_
            refine pu 32 134 (lm 57 8589934591) HT_ ?_
            refine po 33 135 (lm 57 17179869183) HT_ ?_
            refine po 34 136 (lm 57 34359738367) HT_ ?_
            refine po 35 137 (lm 57 68719476735) HT_ ?_
            refine po 36 138 (lm 57 137438953471) HT_ ?_
            refine po 37 139 (lm 57 274877906943) HT_ ?_
            refine po 38 140 (lm 57 549755813887) HT_ ?_
            refine po 39 141 (lm 57 1099511627775) HT_ ?_
            refine pu 40 142 (lm 57 2199023255551) HT_ ?_
            refine pu 41 143 (lm 57 4398046511103) HT_ ?_
            refine pu 42 144 (lm 57 8796093022207) HT_ ?_
            refine pu 43 145 (lm 57 17592186044415) HT_ ?_
            refine pu 45 147 (lm 57 52776558133247) HT_ ?_
            refine pu 49 151 (lm 57 615726511554559) HT_ ?_
            refine pu 51 153 (lm 57 2867526325239807) HT_ ?_
            refine ta 44 146 (lm 57 2885118511284223) HT_ HW_ hHeld ?_
            refine pu 46 148 (lm 57 2955487255461887) HT_ ?_
            refine ta 47 149 (lm 57 3096224743817215) HT_ HW_ hHeld ?_
            refine ta 50 152 (lm 57 4222124650659839) HT_ HW_ hHeld ?_
            refine pu 52 154 (lm 57 8725724278030335) HT_ ?_
            refine ta 53 155 (lm 57 17732923532771327) HT_ HW_ hHeld ?_
            refine on 48 (some 150) (lm 57 18014398509481983) HT_ (fun K hK => ?_)
            refine goes_ Try.func12 (by kernel_rfl) rfl #[.int .u64 (rd t396 x99_3)] (by rfl) rfl rfl ga ?_
            with_reducible refine (word_Abs.calls (rd t396 x99_3) t455 _ A120.out).mono ?_
            rintro e w' ⟨rfl, ⟨nd, rfl⟩⟩
            refine ⟨_, rfl, ?_⟩
            refine hK.out _ _ ⟨bk BK400 0, bk BK400 1, bk BK400 2, bk BK400 3, bk BK377 0, bk BK377 1, bk BK377 2, bk BK377 3, bk BK414 0, bk BK414 1, bk BK414 2, bk BK414 3, hHeld.2.2.2.2.2.2.2.2.2.2.2.2.1, hHeld.2.2.2.2.2.2.2.2.2.2.2.2.2.1, hHeld.2.2.2.2.2.2.2.2.2.2.2.2.2.2.1, hHeld.2.2.2.2.2.2.2.2.2.2.2.2.2.2.2.1, hHeld.2.2.2.2.2.2.2.2.2.2.2.2.2.2.2.2.1, hHeld.2.2.2.2.2.2.2.2.2.2.2.2.2.2.2.2.2⟩ (fun hHeld => ?_)
            clear hK K
            refine no 150 ?_
            refine on 54 (some 156) (lm 57 36028797018963967) HT_ (fun K hK => ?_)
            refine goes_ Try.func12 (by kernel_rfl) rfl #[.int .u64 (rd t374 x99_3)] (by rfl) rfl rfl ga ?_
            with_reducible refine (word_Abs.calls (rd t374 x99_3) t457 _ A121.out).mono ?_
            rintro e w' ⟨rfl, ⟨nd, rfl⟩⟩
            refine ⟨_, rfl, ?_⟩
            refine hK.out _ _ ⟨bk BK400 0, bk BK400 1, bk BK400 2, bk BK400 3, bk BK377 0, bk BK377 1, bk BK377 2, bk BK377 3, bk BK414 0, bk BK414 1, bk BK414 2, bk BK414 3, hHeld.2.2.2.2.2.2.2.2.2.2.2.2.1, hHeld.2.2.2.2.2.2.2.2.2.2.2.2.2.1, hHeld.2.2.2.2.2.2.2.2.2.2.2.2.2.2.1, hHeld.2.2.2.2.2.2.2.2.2.2.2.2.2.2.2.1, hHeld.2.2.2.2.2.2.2.2.2.2.2.2.2.2.2.2.1, hHeld.2.2.2.2.2.2.2.2.2.2.2.2.2.2.2.2.2⟩ (fun hHeld => ?_)
            clear hK K
            refine no 156 ?_
            refine pu 55 157 (lm 57 72057594037927935) HT_ ?_
            refine pu 56 158 (lm 57 144115188075855871) HT_ ?_
            refine done_ (done_of HT_.out (by kernel_rfl)) ?_
            try go_wp2
            go_roundg k3
            case measure => have := HJ10.out; have := HJ41.out; have := HK3.out; omega
            case rel => exact ⟨(wrap64 (x99_3 + 1)), (by first | rfl | (simp; done) | (simp [*]; done)), H', ⟨by have := HJ10.out; have := HJ41.out; have := HK3.out; omega⟩, ⟨kr HO_378003⟩, ⟨kr HO_385003⟩, ⟨kr HO_401003⟩, ⟨kr HO_415003⟩, ⟨kr HO_423003⟩, ⟨kr HO_443003⟩, ⟨kb BK377⟩, ⟨kb BK384⟩, ⟨kb BK400⟩, ⟨kb BK414⟩, ⟨kb BK422⟩, ⟨kb BK442⟩, ⟨bes⟩⟩
           ·
            rw [if_neg c119] at H
            have c119b0 : ((rd t410 x99_3) == (rd t374 x99_3)) = false := beq_eq_false_iff_ne.mpr c119
            have c119b1 : ((rd t410 x99_3) != (rd t374 x99_3)) = true := bne_iff_ne.mpr c119
            obtain ⟨t459, A1240, H⟩ := Option.bind_eq_some_iff.mp H
            (try dsimp -simprocs only at H)
            have A124 := Aside0.mk A1240
            clear A1240
            by_cases c125 : t459 = 0
            rotate_left
            ·
             rw [if_neg c125] at H
             have c125b0 : (t459 == 0) = false := beq_eq_false_iff_ne.mpr c125
             have c125b1 : (t459 != 0) = true := bne_iff_ne.mpr c125
             rw [hLW] at H
             exact absurd H (by simp)
            rw [if_pos c125] at H
            have c125b0 : (t459 == 0) = true := beq_iff_eq.mpr c125
            have c125b1 : (t459 != 0) = false := bne_eq_false_iff_eq.mpr c125
            clear c125
            obtain ⟨t461, A1260, H⟩ := Option.bind_eq_some_iff.mp H
            (try dsimp -simprocs only at H)
            have A126 := Aside0.mk A1260
            clear A1260
            obtain ⟨t463, A1270, H⟩ := Option.bind_eq_some_iff.mp H
            (try dsimp -simprocs only at H)
            have A127 := Aside0.mk A1270
            clear A1270
            by_cases c128 : t461 = t463
            rotate_left
            ·
             rw [if_neg c128] at H
             have c128b0 : (t461 == t463) = false := beq_eq_false_iff_ne.mpr c128
             have c128b1 : (t461 != t463) = true := bne_iff_ne.mpr c128
             rw [hLW] at H
             exact absurd H (by simp)
            rw [if_pos c128] at H
            have c128b0 : (t461 == t463) = true := beq_iff_eq.mpr c128
            have c128b1 : (t461 != t463) = false := bne_eq_false_iff_eq.mpr c128
            clear c128
            have H' := Aside0.mk H
            clear H
            try go_wp2
            refine ax13 (Kd.R_drew HO_378003.out) (Kd.R_drew HO_385003.out) (Kd.R_drew HO_401003.out) (Kd.R_drew HO_415003.out) (Kd.R_drew HO_423003.out) (Kd.R_drew HO_443003.out) (blk_drew BK377.out) (blk_drew BK384.out) (blk_drew BK400.out) (blk_drew BK414.out) (blk_drew BK422.out) (blk_drew BK442.out) (below_drew1 HB.out) ?_
            clear HO_378003 HO_385003 HO_401003 HO_415003 HO_423003 HO_443003 BK377 BK384 BK400 BK414 BK422 BK442 HB
            intro HO_378003 HO_385003 HO_401003 HO_415003 HO_423003 HO_443003 BK377 BK384 BK400 BK414 BK422 BK442 HB
            have p450 : 0 ≤ (x99_3 : Int) := of_decide_eq_true (by first | (with_reducible assumption) | assumption)
            have q450 : x99_3 < (t396.length : Int) := of_decide_eq_true (by first | (with_reducible assumption) | assumption)
            obtain ⟨ad450, e450, hx450_0⟩ := Kd.at_int (Kd.R_reads' HO_401003.out).2.2 x99_3 p450 q450
            cases e450
            replace p450 := eq_true p450
            replace q450 := eq_true q450
            have p451 : 0 ≤ (x99_3 : Int) := of_decide_eq_true (by first | (with_reducible assumption) | assumption)
            have q451 : x99_3 < (t374.length : Int) := of_decide_eq_true (by first | (with_reducible assumption) | assumption)
            obtain ⟨ad451, e451, hx451_0⟩ := Kd.at_int (Kd.R_reads' HO_378003.out).2.2 x99_3 p451 q451
            cases e451
            replace p451 := eq_true p451
            replace q451 := eq_true q451
            have p452 : 0 ≤ (x99_3 : Int) := of_decide_eq_true (by first | (with_reducible assumption) | assumption)
            have q452 : x99_3 < (t410.length : Int) := of_decide_eq_true (by first | (with_reducible assumption) | assumption)
            obtain ⟨ad452, e452, hx452_0⟩ := Kd.at_int (Kd.R_reads' HO_415003.out).2.2 x99_3 p452 q452
            cases e452
            replace p452 := eq_true p452
            replace q452 := eq_true q452
            have p453 : 0 ≤ (x99_3 : Int) := of_decide_eq_true (by first | (with_reducible assumption) | assumption)
            have q453 : x99_3 < (t374.length : Int) := of_decide_eq_true (by first | (with_reducible assumption) | assumption)
            obtain ⟨ad453, e453, hx453_0⟩ := Kd.at_int (Kd.R_reads' HO_378003.out).2.2 x99_3 p453 q453
            obtain rfl : ad451 = ad453 := (by injection e453)
            replace p453 := eq_true p453
            replace q453 := eq_true q453
            have p458 : 0 ≤ (x99_3 : Int) := of_decide_eq_true (by first | (with_reducible assumption) | assumption)
            have q458 : x99_3 < (t374.length : Int) := of_decide_eq_true (by first | (with_reducible assumption) | assumption)
            obtain ⟨ad458, e458, hx458_0⟩ := Kd.at_int (Kd.R_reads' HO_378003.out).2.2 x99_3 p458 q458
            obtain rfl : ad451 = ad458 := (by injection e458)
            replace p458 := eq_true p458
            replace q458 := eq_true q458
            have p460 : 0 ≤ (x99_3 : Int) := of_decide_eq_true (by first | (with_reducible assumption) | assumption)
            have q460 : x99_3 < (t396.length : Int) := of_decide_eq_true (by first | (with_reducible assumption) | assumption)
            obtain ⟨ad460, e460, hx460_0⟩ := Kd.at_int (Kd.R_reads' HO_401003.out).2.2 x99_3 p460 q460
            obtain rfl : ad450 = ad460 := (by injection e460)
            replace p460 := eq_true p460
            replace q460 := eq_true q460
            have p462 : 0 ≤ (x99_3 : Int) := of_decide_eq_true (by first | (with_reducible assumption) | assumption)
            have q462 : x99_3 < (t374.length : Int) := of_decide_eq_true (by first | (with_reducible assumption) | assumption)
            obtain ⟨ad462, e462, hx462_0⟩ := Kd.at_int (Kd.R_reads' HO_378003.out).2.2 x99_3 p462 q462
            obtain rfl : ad451 = ad462 := (by injection e462)
            replace p462 := eq_true p462
            replace q462 := eq_true q462
            refine start_ (n := 57) (S := fun w' => w'.cell? ⟨gb400, 0, none⟩ = some (.int .i64 t393) ∧ w'.cell? ⟨gb400, 1, none⟩ = some (.int .i64 t394) ∧ w'.cell? ⟨gb400, 2, none⟩ = some (.int .i64 t395) ∧ w'.cell? ⟨gb400, 3, none⟩ = some (.slice (some ad450) t396.length co52) ∧ w'.cell? ⟨gb377, 0, none⟩ = some (.int .i64 t371) ∧ w'.cell? ⟨gb377, 1, none⟩ = some (.int .i64 t372) ∧ w'.cell? ⟨gb377, 2, none⟩ = some (.int .i64 t373) ∧ w'.cell? ⟨gb377, 3, none⟩ = some (.slice (some ad451) t374.length co16) ∧ w'.cell? ⟨gb414, 0, none⟩ = some (.int .i64 t407) ∧ w'.cell? ⟨gb414, 1, none⟩ = some (.int .i64 t408) ∧ w'.cell? ⟨gb414, 2, none⟩ = some (.int .i64 t409) ∧ w'.cell? ⟨gb414, 3, none⟩ = some (.slice (some ad452) t410.length co64) ∧ w'.cell? (ad450.add (x99_3).toNat) = some (.int .u64 (rd t396 x99_3)) ∧ w'.cell? (ad451.add (x99_3).toNat) = some (.int .u64 (rd t374 x99_3)) ∧ w'.cell? (ad452.add (x99_3).toNat) = some (.int .u64 (rd t410 x99_3)) ∧ w'.cell? (ad451.add (x99_3).toNat) = some (.int .u64 (rd t374 x99_3)) ∧ w'.cell? (ad451.add (x99_3).toNat) = some (.int .u64 (rd t374 x99_3)) ∧ w'.cell? (ad450.add (x99_3).toNat) = some (.int .u64 (rd t396 x99_3)) ∧ w'.cell? (ad451.add (x99_3).toNat) = some (.int .u64 (rd t374 x99_3))) (ds := []) #[false, false, false, false, false, false, false, false, false, false, false, false, false, false, false, false, false, false, false, false, false, false, false, false, false, false, false, false, false, false, false, false, false, false, false, false, false, false, false, false, false, false, false, false, false, false, false, false, false, false, false, false, false, false, false, false, false] (by kernel_rfl) rfl rfl ⟨bk BK400 0, bk BK400 1, bk BK400 2, bk BK400 3, bk BK377 0, bk BK377 1, bk BK377 2, bk BK377 3, bk BK414 0, bk BK414 1, bk BK414 2, bk BK414 3, hx450_0, hx451_0, hx452_0, hx453_0, hx458_0, hx460_0, hx462_0⟩ (fun hHeld => ?_); refine with_tabW gimballaw11_MulOnes.tab18 gimballaw11_MulOnes.bits18 (fun HT_ HW_ => ?_)
            generalize wr.drew = w129 at HO_378003 HO_385003 HO_401003 HO_415003 HO_423003 HO_443003 BK377 BK384 BK400 BK414 BK422 BK442 HB hx450_0 hx451_0 hx452_0 hx453_0 hx458_0 hx460_0 hx462_0 hHeld ⊢
            refine pu 0 102 (lm 57 1) HT_ ?_
            refine pu 2 104 (lm 57 5) HT_ ?_
            refine pu 5 107 (lm 57 37) HT_ ?_
            refine pu 7 109 (lm 57 165) HT_ ?_
            refine ta 1 103 (lm 57 167) HT_ HW_ hHeld ?_
            refine pu 3 105 (lm 57 175) HT_ ?_
            refine ta 4 106 (lm 57 191) HT_ HW_ hHeld ?_
            refine ta 6 108 (lm 57 255) HT_ HW_ hHeld ?_
            refine pu 8 110 (lm 57 511) HT_ ?_
            refine ta 9 111 (lm 57 1023) HT_ HW_ hHeld ?_
            refine pu 10 112 (lm 57 2047) HT_ ?_
            refine pu 11 113 (lm 57 4095) HT_ ?_
            refine po 12 114 (lm 57 8191) HT_ ?_
            refine po 13 115 (lm 57 16383) HT_ ?_
            refine po 14 116 (lm 57 32767) HT_ ?_
            refine po 15 117 (lm 57 65535) HT_ ?_
            refine po 16 118 (lm 57 131071) HT_ ?_
            refine po 17 119 (lm 57 262143) HT_ ?_
            refine po 18 120 (lm 57 524287) HT_ ?_
            refine pu 19 121 (lm 57 1048575) HT_ ?_
            refine pu 20 122 (lm 57 2097151) HT_ ?_
            refine pu 21 123 (lm 57 4194303) HT_ ?_
            refine pu 23 125 (lm 57 12582911) HT_ ?_
            refine pu 26 128 (lm 57 79691775) HT_ ?_
            refine pu 28 130 (lm 57 348127231) HT_ ?_
            refine ta 22 124 (lm 57 352321535) HT_ HW_ hHeld ?_
            refine pu 24 126 (lm 57 369098751) HT_ ?_
            refine ta 25 127 (lm 57 402653183) HT_ HW_ hHeld ?_
            refine ta 27 129 (lm 57 536870911) HT_ HW_ hHeld ?_
            refine pu 29 131 (lm 57 1073741823) HT_ ?_
            refine ta 30 132 (lm 57 2147483647) HT_ HW_ hHeld ?_
            refine pu 31 133 (lm 57 4294967295) HT_ ?_
            refine pu 32 134 (lm 57 8589934591) HT_ ?_
            refine pu 33 135 (lm 57 17179869183) HT_ ?_
            refine pu 35 137 (lm 57 51539607551) HT_ ?_
            refine ta 34 136 (lm 57 68719476735) HT_ HW_ hHeld ?_
            refine pu 36 138 (lm 57 137438953471) HT_ ?_
            refine ta 37 139 (lm 57 274877906943) HT_ HW_ hHeld ?_
            refine on 38 (some 140) (lm 57 549755813887) HT_ (fun K hK => ?_)
            refine goes_ Try.func12 (by kernel_rfl) rfl #[.int .u64 (rd t374 x99_3)] (by rfl) rfl rfl ga ?_
            with_reducible refine (word_Abs.calls (rd t374 x99_3) t459 _ A124.out).mono ?_
            rintro e w' ⟨rfl, ⟨nd, rfl⟩⟩
            refine ⟨_, rfl, ?_⟩
            refine hK.out _ _ ⟨bk BK400 0, bk BK400 1, bk BK400 2, bk BK400 3, bk BK377 0, bk BK377 1, bk BK377 2, bk BK377 3, bk BK414 0, bk BK414 1, bk BK414 2, bk BK414 3, hHeld.2.2.2.2.2.2.2.2.2.2.2.2.1, hHeld.2.2.2.2.2.2.2.2.2.2.2.2.2.1, hHeld.2.2.2.2.2.2.2.2.2.2.2.2.2.2.1, hHeld.2.2.2.2.2.2.2.2.2.2.2.2.2.2.2.1, hHeld.2.2.2.2.2.2.2.2.2.2.2.2.2.2.2.2.1, hHeld.2.2.2.2.2.2.2.2.2.2.2.2.2.2.2.2.2.1, hHeld.2.2.2.2.2.2.2.2.2.2.2.2.2.2.2.2.2.2⟩ (fun hHeld => ?_)
            clear hK K
            refine no 140 ?_
            refine pu 39 141 (lm 57 1099511627775) HT_ ?_
            refine pu 40 142 (lm 57 2199023255551) HT_ ?_
            refine pu 41 143 (lm 57 4398046511103) HT_ ?_
            refine pu 42 144 (lm 57 8796093022207) HT_ ?_
            refine pu 43 145 (lm 57 17592186044415) HT_ ?_
            refine pu 45 147 (lm 57 52776558133247) HT_ ?_
            refine pu 49 151 (lm 57 615726511554559) HT_ ?_
            refine pu 51 153 (lm 57 2867526325239807) HT_ ?_
            refine ta 44 146 (lm 57 2885118511284223) HT_ HW_ hHeld ?_
            refine pu 46 148 (lm 57 2955487255461887) HT_ ?_
            refine ta 47 149 (lm 57 3096224743817215) HT_ HW_ hHeld ?_
            refine ta 50 152 (lm 57 4222124650659839) HT_ HW_ hHeld ?_
            refine pu 52 154 (lm 57 8725724278030335) HT_ ?_
            refine ta 53 155 (lm 57 17732923532771327) HT_ HW_ hHeld ?_
            refine on 48 (some 150) (lm 57 18014398509481983) HT_ (fun K hK => ?_)
            refine goes_ Try.func12 (by kernel_rfl) rfl #[.int .u64 (rd t396 x99_3)] (by rfl) rfl rfl ga ?_
            with_reducible refine (word_Abs.calls (rd t396 x99_3) t461 _ A126.out).mono ?_
            rintro e w' ⟨rfl, ⟨nd, rfl⟩⟩
            refine ⟨_, rfl, ?_⟩
            refine hK.out _ _ ⟨bk BK400 0, bk BK400 1, bk BK400 2, bk BK400 3, bk BK377 0, bk BK377 1, bk BK377 2, bk BK377 3, bk BK414 0, bk BK414 1, bk BK414 2, bk BK414 3, hHeld.2.2.2.2.2.2.2.2.2.2.2.2.1, hHeld.2.2.2.2.2.2.2.2.2.2.2.2.2.1, hHeld.2.2.2.2.2.2.2.2.2.2.2.2.2.2.1, hHeld.2.2.2.2.2.2.2.2.2.2.2.2.2.2.2.1, hHeld.2.2.2.2.2.2.2.2.2.2.2.2.2.2.2.2.1, hHeld.2.2.2.2.2.2.2.2.2.2.2.2.2.2.2.2.2.1, hHeld.2.2.2.2.2.2.2.2.2.2.2.2.2.2.2.2.2.2⟩ (fun hHeld => ?_)
            clear hK K
            refine no 150 ?_
            refine on 54 (some 156) (lm 57 36028797018963967) HT_ (fun K hK => ?_)
            refine goes_ Try.func12 (by kernel_rfl) rfl #[.int .u64 (rd t374 x99_3)] (by rfl) rfl rfl ga ?_
            with_reducible refine (word_Abs.calls (rd t374 x99_3) t463 _ A127.out).mono ?_
            rintro e w' ⟨rfl, ⟨nd, rfl⟩⟩
            refine ⟨_, rfl, ?_⟩
            refine hK.out _ _ ⟨bk BK400 0, bk BK400 1, bk BK400 2, bk BK400 3, bk BK377 0, bk BK377 1, bk BK377 2, bk BK377 3, bk BK414 0, bk BK414 1, bk BK414 2, bk BK414 3, hHeld.2.2.2.2.2.2.2.2.2.2.2.2.1, hHeld.2.2.2.2.2.2.2.2.2.2.2.2.2.1, hHeld.2.2.2.2.2.2.2.2.2.2.2.2.2.2.1, hHeld.2.2.2.2.2.2.2.2.2.2.2.2.2.2.2.1, hHeld.2.2.2.2.2.2.2.2.2.2.2.2.2.2.2.2.1, hHeld.2.2.2.2.2.2.2.2.2.2.2.2.2.2.2.2.2.1, hHeld.2.2.2.2.2.2.2.2.2.2.2.2.2.2.2.2.2.2⟩ (fun hHeld => ?_)
            clear hK K
            refine no 156 ?_
            refine pu 55 157 (lm 57 72057594037927935) HT_ ?_
            refine pu 56 158 (lm 57 144115188075855871) HT_ ?_
            refine done_ (done_of HT_.out (by kernel_rfl)) ?_
            try go_wp2
            go_roundg k3
            case measure => have := HJ10.out; have := HJ41.out; have := HK3.out; omega
            case rel => exact ⟨(wrap64 (x99_3 + 1)), (by first | rfl | (simp; done) | (simp [*]; done)), H', ⟨by have := HJ10.out; have := HJ41.out; have := HK3.out; omega⟩, ⟨kr HO_378003⟩, ⟨kr HO_385003⟩, ⟨kr HO_401003⟩, ⟨kr HO_415003⟩, ⟨kr HO_423003⟩, ⟨kr HO_443003⟩, ⟨kb BK377⟩, ⟨kb BK384⟩, ⟨kb BK400⟩, ⟨kb BK414⟩, ⟨kb BK422⟩, ⟨kb BK442⟩, ⟨bes⟩⟩
          ·
           rw [if_neg c117] at H
           have c117b0 : ((rd t396 x99_3) == (rd t374 x99_3)) = false := beq_eq_false_iff_ne.mpr c117
           have c117b1 : ((rd t396 x99_3) != (rd t374 x99_3)) = true := bne_iff_ne.mpr c117
           obtain ⟨t465, A1300, H⟩ := Option.bind_eq_some_iff.mp H
           (try dsimp -simprocs only at H)
           have A130 := Aside0.mk A1300
           clear A1300
           by_cases c131 : t465 = 0
           rotate_left
           ·
            rw [if_neg c131] at H
            have c131b0 : (t465 == 0) = false := beq_eq_false_iff_ne.mpr c131
            have c131b1 : (t465 != 0) = true := bne_iff_ne.mpr c131
            rw [hLW] at H
            exact absurd H (by simp)
           rw [if_pos c131] at H
           have c131b0 : (t465 == 0) = true := beq_iff_eq.mpr c131
           have c131b1 : (t465 != 0) = false := bne_eq_false_iff_eq.mpr c131
           clear c131
           by_cases c132 : x99_3 < (t410.length : Int)
           rotate_left
           ·
            rw [if_neg c132] at H
            exact absurd H (by simp)
           rw [if_pos c132] at H
           have c132b0 : decide (x99_3 < (t410.length : Int)) = true := decide_eq_true c132
           clear c132
           by_cases c133 : (rd t410 x99_3) = (rd t374 x99_3)
           ·
            rw [if_pos c133] at H
            have c133b0 : ((rd t410 x99_3) == (rd t374 x99_3)) = true := beq_iff_eq.mpr c133
            have c133b1 : ((rd t410 x99_3) != (rd t374 x99_3)) = false := bne_eq_false_iff_eq.mpr c133
            clear c133
            obtain ⟨t469, A1340, H⟩ := Option.bind_eq_some_iff.mp H
            (try dsimp -simprocs only at H)
            have A134 := Aside0.mk A1340
            clear A1340
            obtain ⟨t471, A1350, H⟩ := Option.bind_eq_some_iff.mp H
            (try dsimp -simprocs only at H)
            have A135 := Aside0.mk A1350
            clear A1350
            by_cases c136 : t469 = t471
            rotate_left
            ·
             rw [if_neg c136] at H
             have c136b0 : (t469 == t471) = false := beq_eq_false_iff_ne.mpr c136
             have c136b1 : (t469 != t471) = true := bne_iff_ne.mpr c136
             rw [hLW] at H
             exact absurd H (by simp)
            rw [if_pos c136] at H
            have c136b0 : (t469 == t471) = true := beq_iff_eq.mpr c136
            have c136b1 : (t469 != t471) = false := bne_eq_false_iff_eq.mpr c136
            clear c136
            have H' := Aside0.mk H
            clear H
            try go_wp2
            refine ax13 (Kd.R_drew HO_378003.out) (Kd.R_drew HO_385003.out) (Kd.R_drew HO_401003.out) (Kd.R_drew HO_415003.out) (Kd.R_drew HO_423003.out) (Kd.R_drew HO_443003.out) (blk_drew BK377.out) (blk_drew BK384.out) (blk_drew BK400.out) (blk_drew BK414.out) (blk_drew BK422.out) (blk_drew BK442.out) (below_drew1 HB.out) ?_
            clear HO_378003 HO_385003 HO_401003 HO_415003 HO_423003 HO_443003 BK377 BK384 BK400 BK414 BK422 BK442 HB
            intro HO_378003 HO_385003 HO_401003 HO_415003 HO_423003 HO_443003 BK377 BK384 BK400 BK414 BK422 BK442 HB
            have p450 : 0 ≤ (x99_3 : Int) := of_decide_eq_true (by first | (with_reducible assumption) | assumption)
            have q450 : x99_3 < (t396.length : Int) := of_decide_eq_true (by first | (with_reducible assumption) | assumption)
            obtain ⟨ad450, e450, hx450_0⟩ := Kd.at_int (Kd.R_reads' HO_401003.out).2.2 x99_3 p450 q450
            cases e450
            replace p450 := eq_true p450
            replace q450 := eq_true q450
            have p451 : 0 ≤ (x99_3 : Int) := of_decide_eq_true (by first | (with_reducible assumption) | assumption)
            have q451 : x99_3 < (t374.length : Int) := of_decide_eq_true (by first | (with_reducible assumption) | assumption)
            obtain ⟨ad451, e451, hx451_0⟩ := Kd.at_int (Kd.R_reads' HO_378003.out).2.2 x99_3 p451 q451
            cases e451
            replace p451 := eq_true p451
            replace q451 := eq_true q451
            have p464 : 0 ≤ (x99_3 : Int) := of_decide_eq_true (by first | (with_reducible assumption) | assumption)
            have q464 : x99_3 < (t374.length : Int) := of_decide_eq_true (by first | (with_reducible assumption) | assumption)
            obtain ⟨ad464, e464, hx464_0⟩ := Kd.at_int (Kd.R_reads' HO_378003.out).2.2 x99_3 p464 q464
            obtain rfl : ad451 = ad464 := (by injection e464)
            replace p464 := eq_true p464
            replace q464 := eq_true q464
            have p466 : 0 ≤ (x99_3 : Int) := of_decide_eq_true (by first | (with_reducible assumption) | assumption)
            have q466 : x99_3 < (t410.length : Int) := of_decide_eq_true (by first | (with_reducible assumption) | assumption)
            obtain ⟨ad466, e466, hx466_0⟩ := Kd.at_int (Kd.R_reads' HO_415003.out).2.2 x99_3 p466 q466
            cases e466
            replace p466 := eq_true p466
            replace q466 := eq_true q466
            have p467 : 0 ≤ (x99_3 : Int) := of_decide_eq_true (by first | (with_reducible assumption) | assumption)
            have q467 : x99_3 < (t374.length : Int) := of_decide_eq_true (by first | (with_reducible assumption) | assumption)
            obtain ⟨ad467, e467, hx467_0⟩ := Kd.at_int (Kd.R_reads' HO_378003.out).2.2 x99_3 p467 q467
            obtain rfl : ad451 = ad467 := (by injection e467)
            replace p467 := eq_true p467
            replace q467 := eq_true q467
            have p468 : 0 ≤ (x99_3 : Int) := of_decide_eq_true (by first | (with_reducible assumption) | assumption)
            have q468 : x99_3 < (t396.length : Int) := of_decide_eq_true (by first | (with_reducible assumption) | assumption)
            obtain ⟨ad468, e468, hx468_0⟩ := Kd.at_int (Kd.R_reads' HO_401003.out).2.2 x99_3 p468 q468
            obtain rfl : ad450 = ad468 := (by injection e468)
            replace p468 := eq_true p468
            replace q468 := eq_true q468
            have p470 : 0 ≤ (x99_3 : Int) := of_decide_eq_true (by first | (with_reducible assumption) | assumption)
            have q470 : x99_3 < (t374.length : Int) := of_decide_eq_true (by first | (with_reducible assumption) | assumption)
            obtain ⟨ad470, e470, hx470_0⟩ := Kd.at_int (Kd.R_reads' HO_378003.out).2.2 x99_3 p470 q470
            obtain rfl : ad451 = ad470 := (by injection e470)
            replace p470 := eq_true p470
            replace q470 := eq_true q470
            refine start_ (n := 57) (S := fun w' => w'.cell? ⟨gb400, 0, none⟩ = some (.int .i64 t393) ∧ w'.cell? ⟨gb400, 1, none⟩ = some (.int .i64 t394) ∧ w'.cell? ⟨gb400, 2, none⟩ = some (.int .i64 t395) ∧ w'.cell? ⟨gb400, 3, none⟩ = some (.slice (some ad450) t396.length co52) ∧ w'.cell? ⟨gb377, 0, none⟩ = some (.int .i64 t371) ∧ w'.cell? ⟨gb377, 1, none⟩ = some (.int .i64 t372) ∧ w'.cell? ⟨gb377, 2, none⟩ = some (.int .i64 t373) ∧ w'.cell? ⟨gb377, 3, none⟩ = some (.slice (some ad451) t374.length co16) ∧ w'.cell? ⟨gb414, 0, none⟩ = some (.int .i64 t407) ∧ w'.cell? ⟨gb414, 1, none⟩ = some (.int .i64 t408) ∧ w'.cell? ⟨gb414, 2, none⟩ = some (.int .i64 t409) ∧ w'.cell? ⟨gb414, 3, none⟩ = some (.slice (some ad466) t410.length co64) ∧ w'.cell? (ad450.add (x99_3).toNat) = some (.int .u64 (rd t396 x99_3)) ∧ w'.cell? (ad451.add (x99_3).toNat) = some (.int .u64 (rd t374 x99_3)) ∧ w'.cell? (ad451.add (x99_3).toNat) = some (.int .u64 (rd t374 x99_3)) ∧ w'.cell? (ad466.add (x99_3).toNat) = some (.int .u64 (rd t410 x99_3)) ∧ w'.cell? (ad451.add (x99_3).toNat) = some (.int .u64 (rd t374 x99_3)) ∧ w'.cell? (ad450.add (x99_3).toNat) = some (.int .u64 (rd t396 x99_3)) ∧ w'.cell? (ad451.add (x99_3).toNat) = some (.int .u64 (rd t374 x99_3))) (ds := []) #[false, false, false, false, false, false, false, false, false, false, false, false, false, false, false, false, false, false, false, false, false, false, false, false, false, false, false, false, false, false, false, false, false, false, false, false, false, false, false, false, false, false, false, false, false, false, false, false, false, false, false, false, false, false, false, false, false] (by kernel_rfl) rfl rfl ⟨bk BK400 0, bk BK400 1, bk BK400 2, bk BK400 3, bk BK377 0, bk BK377 1, bk BK377 2, bk BK377 3, bk BK414 0, bk BK414 1, bk BK414 2, bk BK414 3, hx450_0, hx451_0, hx464_0, hx466_0, hx467_0, hx468_0, hx470_0⟩ (fun hHeld => ?_); refine with_tabW gimballaw11_MulOnes.tab18 gimballaw11_MulOnes.bits18 (fun HT_ HW_ => ?_)
            generalize wr.drew = w137 at HO_378003 HO_385003 HO_401003 HO_415003 HO_423003 HO_443003 BK377 BK384 BK400 BK414 BK422 BK442 HB hx450_0 hx451_0 hx464_0 hx466_0 hx467_0 hx468_0 hx470_0 hHeld ⊢
            refine pu 0 102 (lm 57 1) HT_ ?_
            refine pu 2 104 (lm 57 5) HT_ ?_
            refine pu 5 107 (lm 57 37) HT_ ?_
            refine pu 7 109 (lm 57 165) HT_ ?_
            refine ta 1 103 (lm 57 167) HT_ HW_ hHeld ?_
            refine pu 3 105 (lm 57 175) HT_ ?_
            refine ta 4 106 (lm 57 191) HT_ HW_ hHeld ?_
            refine ta 6 108 (lm 57 255) HT_ HW_ hHeld ?_
            refine pu 8 110 (lm 57 511) HT_ ?_
            refine ta 9 111 (lm 57 1023) HT_ HW_ hHeld ?_
            refine pu 10 112 (lm 57 2047) HT_ ?_
            refine pu 11 113 (lm 57 4095) HT_ ?_
            refine pu 12 114 (lm 57 8191) HT_ ?_
            refine pu 14 116 (lm 57 24575) HT_ ?_
            refine ta 13 115 (lm 57 32767) HT_ HW_ hHeld ?_
            refine pu 15 117 (lm 57 65535) HT_ ?_
            refine ta 16 118 (lm 57 131071) HT_ HW_ hHeld ?_
            refine on 17 (some 119) (lm 57 262143) HT_ (fun K hK => ?_)
            refine goes_ Try.func12 (by kernel_rfl) rfl #[.int .u64 (rd t374 x99_3)] (by rfl) rfl rfl ga ?_
            with_reducible refine (word_Abs.calls (rd t374 x99_3) t465 _ A130.out).mono ?_
            rintro e w' ⟨rfl, ⟨nd, rfl⟩⟩
            refine ⟨_, rfl, ?_⟩
            refine hK.out _ _ ⟨bk BK400 0, bk BK400 1, bk BK400 2, bk BK400 3, bk BK377 0, bk BK377 1, bk BK377 2, bk BK377 3, bk BK414 0, bk BK414 1, bk BK414 2, bk BK414 3, hHeld.2.2.2.2.2.2.2.2.2.2.2.2.1, hHeld.2.2.2.2.2.2.2.2.2.2.2.2.2.1, hHeld.2.2.2.2.2.2.2.2.2.2.2.2.2.2.1, hHeld.2.2.2.2.2.2.2.2.2.2.2.2.2.2.2.1, hHeld.2.2.2.2.2.2.2.2.2.2.2.2.2.2.2.2.1, hHeld.2.2.2.2.2.2.2.2.2.2.2.2.2.2.2.2.2.1, hHeld.2.2.2.2.2.2.2.2.2.2.2.2.2.2.2.2.2.2⟩ (fun hHeld => ?_)
            clear hK K
            refine no 119 ?_
            refine pu 18 120 (lm 57 524287) HT_ ?_
            refine pu 19 121 (lm 57 1048575) HT_ ?_
            refine pu 20 122 (lm 57 2097151) HT_ ?_
            refine pu 21 123 (lm 57 4194303) HT_ ?_
            refine pu 23 125 (lm 57 12582911) HT_ ?_
            refine pu 26 128 (lm 57 79691775) HT_ ?_
            refine pu 28 130 (lm 57 348127231) HT_ ?_
            refine ta 22 124 (lm 57 352321535) HT_ HW_ hHeld ?_
            refine pu 24 126 (lm 57 369098751) HT_ ?_
            refine ta 25 127 (lm 57 402653183) HT_ HW_ hHeld ?_
            refine ta 27 129 (lm 57 536870911) HT_ HW_ hHeld ?_
            refine pu 29 131 (lm 57 1073741823) HT_ ?_
            refine ta 30 132 (lm 57 2147483647) HT_ HW_ hHeld ?_
            refine pu 31 133 (lm 57 4294967295) HT_ ?_
            refine pu 32 134 (lm 57 8589934591) HT_ ?_
            refine po 33 135 (lm 57 17179869183) HT_ ?_
            refine po 34 136 (lm 57 34359738367) HT_ ?_
            refine po 35 137 (lm 57 68719476735) HT_ ?_
            refine po 36 138 (lm 57 137438953471) HT_ ?_
            refine po 37 139 (lm 57 274877906943) HT_ ?_
            refine po 38 140 (lm 57 549755813887) HT_ ?_
            refine po 39 141 (lm 57 1099511627775) HT_ ?_
            refine pu 40 142 (lm 57 2199023255551) HT_ ?_
            refine pu 41 143 (lm 57 4398046511103) HT_ ?_
            refine pu 42 144 (lm 57 8796093022207) HT_ ?_
            refine pu 43 145 (lm 57 17592186044415) HT_ ?_
            refine pu 45 147 (lm 57 52776558133247) HT_ ?_
            refine pu 49 151 (lm 57 615726511554559) HT_ ?_
            refine pu 51 153 (lm 57 2867526325239807) HT_ ?_
            refine ta 44 146 (lm 57 2885118511284223) HT_ HW_ hHeld ?_
            refine pu 46 148 (lm 57 2955487255461887) HT_ ?_
            refine ta 47 149 (lm 57 3096224743817215) HT_ HW_ hHeld ?_
            refine ta 50 152 (lm 57 4222124650659839) HT_ HW_ hHeld ?_
            refine pu 52 154 (lm 57 8725724278030335) HT_ ?_
            refine ta 53 155 (lm 57 17732923532771327) HT_ HW_ hHeld ?_
            refine on 48 (some 150) (lm 57 18014398509481983) HT_ (fun K hK => ?_)
            refine goes_ Try.func12 (by kernel_rfl) rfl #[.int .u64 (rd t396 x99_3)] (by rfl) rfl rfl ga ?_
            with_reducible refine (word_Abs.calls (rd t396 x99_3) t469 _ A134.out).mono ?_
            rintro e w' ⟨rfl, ⟨nd, rfl⟩⟩
            refine ⟨_, rfl, ?_⟩
            refine hK.out _ _ ⟨bk BK400 0, bk BK400 1, bk BK400 2, bk BK400 3, bk BK377 0, bk BK377 1, bk BK377 2, bk BK377 3, bk BK414 0, bk BK414 1, bk BK414 2, bk BK414 3, hHeld.2.2.2.2.2.2.2.2.2.2.2.2.1, hHeld.2.2.2.2.2.2.2.2.2.2.2.2.2.1, hHeld.2.2.2.2.2.2.2.2.2.2.2.2.2.2.1, hHeld.2.2.2.2.2.2.2.2.2.2.2.2.2.2.2.1, hHeld.2.2.2.2.2.2.2.2.2.2.2.2.2.2.2.2.1, hHeld.2.2.2.2.2.2.2.2.2.2.2.2.2.2.2.2.2.1, hHeld.2.2.2.2.2.2.2.2.2.2.2.2.2.2.2.2.2.2⟩ (fun hHeld => ?_)
            clear hK K
            refine no 150 ?_
            refine on 54 (some 156) (lm 57 36028797018963967) HT_ (fun K hK => ?_)
            refine goes_ Try.func12 (by kernel_rfl) rfl #[.int .u64 (rd t374 x99_3)] (by rfl) rfl rfl ga ?_
            with_reducible refine (word_Abs.calls (rd t374 x99_3) t471 _ A135.out).mono ?_
            rintro e w' ⟨rfl, ⟨nd, rfl⟩⟩
            refine ⟨_, rfl, ?_⟩
            refine hK.out _ _ ⟨bk BK400 0, bk BK400 1, bk BK400 2, bk BK400 3, bk BK377 0, bk BK377 1, bk BK377 2, bk BK377 3, bk BK414 0, bk BK414 1, bk BK414 2, bk BK414 3, hHeld.2.2.2.2.2.2.2.2.2.2.2.2.1, hHeld.2.2.2.2.2.2.2.2.2.2.2.2.2.1, hHeld.2.2.2.2.2.2.2.2.2.2.2.2.2.2.1, hHeld.2.2.2.2.2.2.2.2.2.2.2.2.2.2.2.1, hHeld.2.2.2.2.2.2.2.2.2.2.2.2.2.2.2.2.1, hHeld.2.2.2.2.2.2.2.2.2.2.2.2.2.2.2.2.2.1, hHeld.2.2.2.2.2.2.2.2.2.2.2.2.2.2.2.2.2.2⟩ (fun hHeld => ?_)
            clear hK K
            refine no 156 ?_
            refine pu 55 157 (lm 57 72057594037927935) HT_ ?_
            refine pu 56 158 (lm 57 144115188075855871) HT_ ?_
            refine done_ (done_of HT_.out (by kernel_rfl)) ?_
            try go_wp2
            go_roundg k3
            case measure => have := HJ10.out; have := HJ41.out; have := HK3.out; omega
            case rel => exact ⟨(wrap64 (x99_3 + 1)), (by first | rfl | (simp; done) | (simp [*]; done)), H', ⟨by have := HJ10.out; have := HJ41.out; have := HK3.out; omega⟩, ⟨kr HO_378003⟩, ⟨kr HO_385003⟩, ⟨kr HO_401003⟩, ⟨kr HO_415003⟩, ⟨kr HO_423003⟩, ⟨kr HO_443003⟩, ⟨kb BK377⟩, ⟨kb BK384⟩, ⟨kb BK400⟩, ⟨kb BK414⟩, ⟨kb BK422⟩, ⟨kb BK442⟩, ⟨bes⟩⟩
           ·
            rw [if_neg c133] at H
            have c133b0 : ((rd t410 x99_3) == (rd t374 x99_3)) = false := beq_eq_false_iff_ne.mpr c133
            have c133b1 : ((rd t410 x99_3) != (rd t374 x99_3)) = true := bne_iff_ne.mpr c133
            obtain ⟨t473, A1380, H⟩ := Option.bind_eq_some_iff.mp H
            (try dsimp -simprocs only at H)
            have A138 := Aside0.mk A1380
            clear A1380
            by_cases c139 : t473 = 0
            rotate_left
            ·
             rw [if_neg c139] at H
             have c139b0 : (t473 == 0) = false := beq_eq_false_iff_ne.mpr c139
             have c139b1 : (t473 != 0) = true := bne_iff_ne.mpr c139
             rw [hLW] at H
             exact absurd H (by simp)
            rw [if_pos c139] at H
            have c139b0 : (t473 == 0) = true := beq_iff_eq.mpr c139
            have c139b1 : (t473 != 0) = false := bne_eq_false_iff_eq.mpr c139
            clear c139
            obtain ⟨t475, A1400, H⟩ := Option.bind_eq_some_iff.mp H
            (try dsimp -simprocs only at H)
            have A140 := Aside0.mk A1400
            clear A1400
            obtain ⟨t477, A1410, H⟩ := Option.bind_eq_some_iff.mp H
            (try dsimp -simprocs only at H)
            have A141 := Aside0.mk A1410
            clear A1410
            by_cases c142 : t475 = t477
            rotate_left
            ·
             rw [if_neg c142] at H
             have c142b0 : (t475 == t477) = false := beq_eq_false_iff_ne.mpr c142
             have c142b1 : (t475 != t477) = true := bne_iff_ne.mpr c142
             rw [hLW] at H
             exact absurd H (by simp)
            rw [if_pos c142] at H
            have c142b0 : (t475 == t477) = true := beq_iff_eq.mpr c142
            have c142b1 : (t475 != t477) = false := bne_eq_false_iff_eq.mpr c142
            clear c142
            have H' := Aside0.mk H
            clear H
            try go_wp2
            refine ax13 (Kd.R_drew HO_378003.out) (Kd.R_drew HO_385003.out) (Kd.R_drew HO_401003.out) (Kd.R_drew HO_415003.out) (Kd.R_drew HO_423003.out) (Kd.R_drew HO_443003.out) (blk_drew BK377.out) (blk_drew BK384.out) (blk_drew BK400.out) (blk_drew BK414.out) (blk_drew BK422.out) (blk_drew BK442.out) (below_drew1 HB.out) ?_
            clear HO_378003 HO_385003 HO_401003 HO_415003 HO_423003 HO_443003 BK377 BK384 BK400 BK414 BK422 BK442 HB
            intro HO_378003 HO_385003 HO_401003 HO_415003 HO_423003 HO_443003 BK377 BK384 BK400 BK414 BK422 BK442 HB
            have p450 : 0 ≤ (x99_3 : Int) := of_decide_eq_true (by first | (with_reducible assumption) | assumption)
            have q450 : x99_3 < (t396.length : Int) := of_decide_eq_true (by first | (with_reducible assumption) | assumption)
            obtain ⟨ad450, e450, hx450_0⟩ := Kd.at_int (Kd.R_reads' HO_401003.out).2.2 x99_3 p450 q450
            cases e450
            replace p450 := eq_true p450
            replace q450 := eq_true q450
            have p451 : 0 ≤ (x99_3 : Int) := of_decide_eq_true (by first | (with_reducible assumption) | assumption)
            have q451 : x99_3 < (t374.length : Int) := of_decide_eq_true (by first | (with_reducible assumption) | assumption)
            obtain ⟨ad451, e451, hx451_0⟩ := Kd.at_int (Kd.R_reads' HO_378003.out).2.2 x99_3 p451 q451
            cases e451
            replace p451 := eq_true p451
            replace q451 := eq_true q451
            have p464 : 0 ≤ (x99_3 : Int) := of_decide_eq_true (by first | (with_reducible assumption) | assumption)
            have q464 : x99_3 < (t374.length : Int) := of_decide_eq_true (by first | (with_reducible assumption) | assumption)
            obtain ⟨ad464, e464, hx464_0⟩ := Kd.at_int (Kd.R_reads' HO_378003.out).2.2 x99_3 p464 q464
            obtain rfl : ad451 = ad464 := (by injection e464)
            replace p464 := eq_true p464
            replace q464 := eq_true q464
            have p466 : 0 ≤ (x99_3 : Int) := of_decide_eq_true (by first | (with_reducible assumption) | assumption)
            have q466 : x99_3 < (t410.length : Int) := of_decide_eq_true (by first | (with_reducible assumption) | assumption)
            obtain ⟨ad466, e466, hx466_0⟩ := Kd.at_int (Kd.R_reads' HO_415003.out).2.2 x99_3 p466 q466
            cases e466
            replace p466 := eq_true p466
            replace q466 := eq_true q466
            have p467 : 0 ≤ (x99_3 : Int) := of_decide_eq_true (by first | (with_reducible assumption) | assumption)
            have q467 : x99_3 < (t374.length : Int) := of_decide_eq_true (by first | (with_reducible assumption) | assumption)
            obtain ⟨ad467, e467, hx467_0⟩ := Kd.at_int (Kd.R_reads' HO_378003.out).2.2 x99_3 p467 q467
            obtain rfl : ad451 = ad467 := (by injection e467)
            replace p467 := eq_true p467
            replace q467 := eq_true q467
            have p472 : 0 ≤ (x99_3 : Int) := of_decide_eq_true (by first | (with_reducible assumption) | assumption)
            have q472 : x99_3 < (t374.length : Int) := of_decide_eq_true (by first | (with_reducible assumption) | assumption)
            obtain ⟨ad472, e472, hx472_0⟩ := Kd.at_int (Kd.R_reads' HO_378003.out).2.2 x99_3 p472 q472
            obtain rfl : ad451 = ad472 := (by injection e472)
            replace p472 := eq_true p472
            replace q472 := eq_true q472
            have p474 : 0 ≤ (x99_3 : Int) := of_decide_eq_true (by first | (with_reducible assumption) | assumption)
            have q474 : x99_3 < (t396.length : Int) := of_decide_eq_true (by first | (with_reducible assumption) | assumption)
            obtain ⟨ad474, e474, hx474_0⟩ := Kd.at_int (Kd.R_reads' HO_401003.out).2.2 x99_3 p474 q474
            obtain rfl : ad450 = ad474 := (by injection e474)
            replace p474 := eq_true p474
            replace q474 := eq_true q474
            have p476 : 0 ≤ (x99_3 : Int) := of_decide_eq_true (by first | (with_reducible assumption) | assumption)
            have q476 : x99_3 < (t374.length : Int) := of_decide_eq_true (by first | (with_reducible assumption) | assumption)
            obtain ⟨ad476, e476, hx476_0⟩ := Kd.at_int (Kd.R_reads' HO_378003.out).2.2 x99_3 p476 q476
            obtain rfl : ad451 = ad476 := (by injection e476)
            replace p476 := eq_true p476
            replace q476 := eq_true q476
            refine start_ (n := 57) (S := fun w' => w'.cell? ⟨gb400, 0, none⟩ = some (.int .i64 t393) ∧ w'.cell? ⟨gb400, 1, none⟩ = some (.int .i64 t394) ∧ w'.cell? ⟨gb400, 2, none⟩ = some (.int .i64 t395) ∧ w'.cell? ⟨gb400, 3, none⟩ = some (.slice (some ad450) t396.length co52) ∧ w'.cell? ⟨gb377, 0, none⟩ = some (.int .i64 t371) ∧ w'.cell? ⟨gb377, 1, none⟩ = some (.int .i64 t372) ∧ w'.cell? ⟨gb377, 2, none⟩ = some (.int .i64 t373) ∧ w'.cell? ⟨gb377, 3, none⟩ = some (.slice (some ad451) t374.length co16) ∧ w'.cell? ⟨gb414, 0, none⟩ = some (.int .i64 t407) ∧ w'.cell? ⟨gb414, 1, none⟩ = some (.int .i64 t408) ∧ w'.cell? ⟨gb414, 2, none⟩ = some (.int .i64 t409) ∧ w'.cell? ⟨gb414, 3, none⟩ = some (.slice (some ad466) t410.length co64) ∧ w'.cell? (ad450.add (x99_3).toNat) = some (.int .u64 (rd t396 x99_3)) ∧ w'.cell? (ad451.add (x99_3).toNat) = some (.int .u64 (rd t374 x99_3)) ∧ w'.cell? (ad451.add (x99_3).toNat) = some (.int .u64 (rd t374 x99_3)) ∧ w'.cell? (ad466.add (x99_3).toNat) = some (.int .u64 (rd t410 x99_3)) ∧ w'.cell? (ad451.add (x99_3).toNat) = some (.int .u64 (rd t374 x99_3)) ∧ w'.cell? (ad451.add (x99_3).toNat) = some (.int .u64 (rd t374 x99_3)) ∧ w'.cell? (ad450.add (x99_3).toNat) = some (.int .u64 (rd t396 x99_3)) ∧ w'.cell? (ad451.add (x99_3).toNat) = some (.int .u64 (rd t374 x99_3))) (ds := []) #[false, false, false, false, false, false, false, false, false, false, false, false, false, false, false, false, false, false, false, false, false, false, false, false, false, false, false, false, false, false, false, false, false, false, false, false, false, false, false, false, false, false, false, false, false, false, false, false, false, false, false, false, false, false, false, false, false] (by kernel_rfl) rfl rfl ⟨bk BK400 0, bk BK400 1, bk BK400 2, bk BK400 3, bk BK377 0, bk BK377 1, bk BK377 2, bk BK377 3, bk BK414 0, bk BK414 1, bk BK414 2, bk BK414 3, hx450_0, hx451_0, hx464_0, hx466_0, hx467_0, hx472_0, hx474_0, hx476_0⟩ (fun hHeld => ?_); refine with_tabW gimballaw11_MulOnes.tab18 gimballaw11_MulOnes.bits18 (fun HT_ HW_ => ?_)
            generalize wr.drew = w143 at HO_378003 HO_385003 HO_401003 HO_415003 HO_423003 HO_443003 BK377 BK384 BK400 BK414 BK422 BK442 HB hx450_0 hx451_0 hx464_0 hx466_0 hx467_0 hx472_0 hx474_0 hx476_0 hHeld ⊢
            refine pu 0 102 (lm 57 1) HT_ ?_
            refine pu 2 104 (lm 57 5) HT_ ?_
            refine pu 5 107 (lm 57 37) HT_ ?_
            refine pu 7 109 (lm 57 165) HT_ ?_
            refine ta 1 103 (lm 57 167) HT_ HW_ hHeld ?_
            refine pu 3 105 (lm 57 175) HT_ ?_
            refine ta 4 106 (lm 57 191) HT_ HW_ hHeld ?_
            refine ta 6 108 (lm 57 255) HT_ HW_ hHeld ?_
            refine pu 8 110 (lm 57 511) HT_ ?_
            refine ta 9 111 (lm 57 1023) HT_ HW_ hHeld ?_
            refine pu 10 112 (lm 57 2047) HT_ ?_
            refine pu 11 113 (lm 57 4095) HT_ ?_
            refine pu 12 114 (lm 57 8191) HT_ ?_
            refine pu 14 116 (lm 57 24575) HT_ ?_
            refine ta 13 115 (lm 57 32767) HT_ HW_ hHeld ?_
            refine pu 15 117 (lm 57 65535) HT_ ?_
            refine ta 16 118 (lm 57 131071) HT_ HW_ hHeld ?_
            refine on 17 (some 119) (lm 57 262143) HT_ (fun K hK => ?_)
            refine goes_ Try.func12 (by kernel_rfl) rfl #[.int .u64 (rd t374 x99_3)] (by rfl) rfl rfl ga ?_
            with_reducible refine (word_Abs.calls (rd t374 x99_3) t465 _ A130.out).mono ?_
            rintro e w' ⟨rfl, ⟨nd, rfl⟩⟩
            refine ⟨_, rfl, ?_⟩
            refine hK.out _ _ ⟨bk BK400 0, bk BK400 1, bk BK400 2, bk BK400 3, bk BK377 0, bk BK377 1, bk BK377 2, bk BK377 3, bk BK414 0, bk BK414 1, bk BK414 2, bk BK414 3, hHeld.2.2.2.2.2.2.2.2.2.2.2.2.1, hHeld.2.2.2.2.2.2.2.2.2.2.2.2.2.1, hHeld.2.2.2.2.2.2.2.2.2.2.2.2.2.2.1, hHeld.2.2.2.2.2.2.2.2.2.2.2.2.2.2.2.1, hHeld.2.2.2.2.2.2.2.2.2.2.2.2.2.2.2.2.1, hHeld.2.2.2.2.2.2.2.2.2.2.2.2.2.2.2.2.2.1, hHeld.2.2.2.2.2.2.2.2.2.2.2.2.2.2.2.2.2.2.1, hHeld.2.2.2.2.2.2.2.2.2.2.2.2.2.2.2.2.2.2.2⟩ (fun hHeld => ?_)
            clear hK K
            refine no 119 ?_
            refine pu 18 120 (lm 57 524287) HT_ ?_
            refine pu 19 121 (lm 57 1048575) HT_ ?_
            refine pu 20 122 (lm 57 2097151) HT_ ?_
            refine pu 21 123 (lm 57 4194303) HT_ ?_
            refine pu 23 125 (lm 57 12582911) HT_ ?_
            refine pu 26 128 (lm 57 79691775) HT_ ?_
            refine pu 28 130 (lm 57 348127231) HT_ ?_
            refine ta 22 124 (lm 57 352321535) HT_ HW_ hHeld ?_
            refine pu 24 126 (lm 57 369098751) HT_ ?_
            refine ta 25 127 (lm 57 402653183) HT_ HW_ hHeld ?_
            refine ta 27 129 (lm 57 536870911) HT_ HW_ hHeld ?_
            refine pu 29 131 (lm 57 1073741823) HT_ ?_
            refine ta 30 132 (lm 57 2147483647) HT_ HW_ hHeld ?_
            refine pu 31 133 (lm 57 4294967295) HT_ ?_
            refine pu 32 134 (lm 57 8589934591) HT_ ?_
            refine pu 33 135 (lm 57 17179869183) HT_ ?_
            refine pu 35 137 (lm 57 51539607551) HT_ ?_
            refine ta 34 136 (lm 57 68719476735) HT_ HW_ hHeld ?_
            refine pu 36 138 (lm 57 137438953471) HT_ ?_
            refine ta 37 139 (lm 57 274877906943) HT_ HW_ hHeld ?_
            refine on 38 (some 140) (lm 57 549755813887) HT_ (fun K hK => ?_)
            refine goes_ Try.func12 (by kernel_rfl) rfl #[.int .u64 (rd t374 x99_3)] (by rfl) rfl rfl ga ?_
            with_reducible refine (word_Abs.calls (rd t374 x99_3) t473 _ A138.out).mono ?_
            rintro e w' ⟨rfl, ⟨nd, rfl⟩⟩
            refine ⟨_, rfl, ?_⟩
            refine hK.out _ _ ⟨bk BK400 0, bk BK400 1, bk BK400 2, bk BK400 3, bk BK377 0, bk BK377 1, bk BK377 2, bk BK377 3, bk BK414 0, bk BK414 1, bk BK414 2, bk BK414 3, hHeld.2.2.2.2.2.2.2.2.2.2.2.2.1, hHeld.2.2.2.2.2.2.2.2.2.2.2.2.2.1, hHeld.2.2.2.2.2.2.2.2.2.2.2.2.2.2.1, hHeld.2.2.2.2.2.2.2.2.2.2.2.2.2.2.2.1, hHeld.2.2.2.2.2.2.2.2.2.2.2.2.2.2.2.2.1, hHeld.2.2.2.2.2.2.2.2.2.2.2.2.2.2.2.2.2.1, hHeld.2.2.2.2.2.2.2.2.2.2.2.2.2.2.2.2.2.2.1, hHeld.2.2.2.2.2.2.2.2.2.2.2.2.2.2.2.2.2.2.2⟩ (fun hHeld => ?_)
            clear hK K
            refine no 140 ?_
            refine pu 39 141 (lm 57 1099511627775) HT_ ?_
            refine pu 40 142 (lm 57 2199023255551) HT_ ?_
            refine pu 41 143 (lm 57 4398046511103) HT_ ?_
            refine pu 42 144 (lm 57 8796093022207) HT_ ?_
            refine pu 43 145 (lm 57 17592186044415) HT_ ?_
            refine pu 45 147 (lm 57 52776558133247) HT_ ?_
            refine pu 49 151 (lm 57 615726511554559) HT_ ?_
            refine pu 51 153 (lm 57 2867526325239807) HT_ ?_
            refine ta 44 146 (lm 57 2885118511284223) HT_ HW_ hHeld ?_
            refine pu 46 148 (lm 57 2955487255461887) HT_ ?_
            refine ta 47 149 (lm 57 3096224743817215) HT_ HW_ hHeld ?_
            refine ta 50 152 (lm 57 4222124650659839) HT_ HW_ hHeld ?_
            refine pu 52 154 (lm 57 8725724278030335) HT_ ?_
            refine ta 53 155 (lm 57 17732923532771327) HT_ HW_ hHeld ?_
            refine on 48 (some 150) (lm 57 18014398509481983) HT_ (fun K hK => ?_)
            refine goes_ Try.func12 (by kernel_rfl) rfl #[.int .u64 (rd t396 x99_3)] (by rfl) rfl rfl ga ?_
            with_reducible refine (word_Abs.calls (rd t396 x99_3) t475 _ A140.out).mono ?_
            rintro e w' ⟨rfl, ⟨nd, rfl⟩⟩
            refine ⟨_, rfl, ?_⟩
            refine hK.out _ _ ⟨bk BK400 0, bk BK400 1, bk BK400 2, bk BK400 3, bk BK377 0, bk BK377 1, bk BK377 2, bk BK377 3, bk BK414 0, bk BK414 1, bk BK414 2, bk BK414 3, hHeld.2.2.2.2.2.2.2.2.2.2.2.2.1, hHeld.2.2.2.2.2.2.2.2.2.2.2.2.2.1, hHeld.2.2.2.2.2.2.2.2.2.2.2.2.2.2.1, hHeld.2.2.2.2.2.2.2.2.2.2.2.2.2.2.2.1, hHeld.2.2.2.2.2.2.2.2.2.2.2.2.2.2.2.2.1, hHeld.2.2.2.2.2.2.2.2.2.2.2.2.2.2.2.2.2.1, hHeld.2.2.2.2.2.2.2.2.2.2.2.2.2.2.2.2.2.2.1, hHeld.2.2.2.2.2.2.2.2.2.2.2.2.2.2.2.2.2.2.2⟩ (fun hHeld => ?_)
            clear hK K
            refine no 150 ?_
            refine on 54 (some 156) (lm 57 36028797018963967) HT_ (fun K hK => ?_)
            refine goes_ Try.func12 (by kernel_rfl) rfl #[.int .u64 (rd t374 x99_3)] (by rfl) rfl rfl ga ?_
            with_reducible refine (word_Abs.calls (rd t374 x99_3) t477 _ A141.out).mono ?_
            rintro e w' ⟨rfl, ⟨nd, rfl⟩⟩
            refine ⟨_, rfl, ?_⟩
            refine hK.out _ _ ⟨bk BK400 0, bk BK400 1, bk BK400 2, bk BK400 3, bk BK377 0, bk BK377 1, bk BK377 2, bk BK377 3, bk BK414 0, bk BK414 1, bk BK414 2, bk BK414 3, hHeld.2.2.2.2.2.2.2.2.2.2.2.2.1, hHeld.2.2.2.2.2.2.2.2.2.2.2.2.2.1, hHeld.2.2.2.2.2.2.2.2.2.2.2.2.2.2.1, hHeld.2.2.2.2.2.2.2.2.2.2.2.2.2.2.2.1, hHeld.2.2.2.2.2.2.2.2.2.2.2.2.2.2.2.2.1, hHeld.2.2.2.2.2.2.2.2.2.2.2.2.2.2.2.2.2.1, hHeld.2.2.2.2.2.2.2.2.2.2.2.2.2.2.2.2.2.2.1, hHeld.2.2.2.2.2.2.2.2.2.2.2.2.2.2.2.2.2.2.2⟩ (fun hHeld => ?_)
            clear hK K
            refine no 156 ?_
            refine pu 55 157 (lm 57 72057594037927935) HT_ ?_
            refine pu 56 158 (lm 57 144115188075855871) HT_ ?_
            refine done_ (done_of HT_.out (by kernel_rfl)) ?_
            try go_wp2
            go_roundg k3
            case measure => have := HJ10.out; have := HJ41.out; have := HK3.out; omega
            case rel => exact ⟨(wrap64 (x99_3 + 1)), (by first | rfl | (simp; done) | (simp [*]; done)), H', ⟨by have := HJ10.out; have := HJ41.out; have := HK3.out; omega⟩, ⟨kr HO_378003⟩, ⟨kr HO_385003⟩, ⟨kr HO_401003⟩, ⟨kr HO_415003⟩, ⟨kr HO_423003⟩, ⟨kr HO_443003⟩, ⟨kb BK377⟩, ⟨kb BK384⟩, ⟨kb BK400⟩, ⟨kb BK414⟩, ⟨kb BK422⟩, ⟨kb BK442⟩, ⟨bes⟩⟩
/-- THE ONE PURE STATEMENT of gimballaw11_MulOnes: yours. -/
def gimballaw11_MulOnes.Pure : Prop := ∀ (a0 : Int) (a1 : Int) (a2 : Int) (l3 : List Int), (Lit.int .i64 a0).wf = true → (Lit.int .i64 a1).wf = true → (Lit.int .i64 a2).wf = true → l3.length ≤ maxLen → l3.length * 8 ≤ 140737488351232 → (∀ x ∈ l3, (Lit.int .u64 x).wf = true) → ∃ k, gimballaw11_MulOnes.f k a0 a1 a2 l3 = some true
theorem gimballaw11_MulOnes.walk (P : gimballaw11_MulOnes.Pure) (a0 : Int) (a1 : Int) (a2 : Int) (a3 : Option Addr) (len3 cap3 : Nat) (z3 : List Int) (w : World) (w0 : (Lit.int .i64 a0).wf = true) (w1 : (Lit.int .i64 a1).wf = true) (w2 : (Lit.int .i64 a2).wf = true) (w3 : (a3 = none ∧ len3 = 0 ∧ cap3 = 0 ∧ z3 = []) ∨ ∃ x, a3 = some x ∧ len3 ≤ cap3 ∧ cap3 ≤ maxLen ∧ z3.length = cap3 ∧ (∀ i, i < z3.length → w.cell? (x.add i) = some (.int .u64 (z3.getD i 0))) ∧ ∀ n ∈ z3, (Lit.int .u64 n).wf = true) (y3 : len3 * 8 ≤ 140737488351232) :
  Calls Try.prog 3 #[.int .i64 a0, .int .i64 a1, .int .i64 a2, .slice a3 len3 cap3] w fun e w' => e = .returned (.bool true) ∧ Below w.heap.size w w' := by
 obtain ⟨l3, rfl, hr3, hm3, hw3, hc3⟩ := ReadsInt.ofRowC w3
 obtain ⟨k, h⟩ := P a0 a1 a2 l3 w0 w1 w2 hm3 y3 hw3
 refine (gimballaw11_MulOnes.calls k a0 a1 a2 _ _ l3 true w (Kd.C_of_reads (d := (0 : Int)) (h1 := fun _ => rfl) hr3) hc3 rfl h).mono ?_
 rintro e w' ⟨rfl, hd⟩
 exact ⟨rfl, hd⟩

end Go.Proofs.Ytfogmgcpajndcaa.F
