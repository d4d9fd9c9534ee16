-- Written by a program of this seat's session (mkprint), out of the translation.
import Derived.Test.YtakegikedpcilaaDoorShort
import Derived.Test.YtakegikedpcilaaDoorFx0
import Derived.Test.YtakegikedpcilaaDoorFx2
import Derived.Test.YtakegikedpcilaaDoorFx4
import Derived.Test.YtakegikedpcilaaDoorFx8
import Derived.Test.YtakegikedpcilaaDoorFx9
import Derived.Test.YtakegikedpcilaaDoorFx10
import Derived.Test.YtakegikedpcilaaDoorFx12
import Derived.Test.YtakegikedpcilaaDoorFx20
namespace Go.Proofs.YtakegikedpcilaaDoor.F
open Go.RowKit Go.Proofs.YtakegikedpcilaaDoorW.PrintWords Go.Proofs.YtakegikedpcilaaDoorW.PrintLast Go.Proofs.YtakegikedpcilaaDoorW.PrintMore
attribute [local go_sem] max2_int min2_int max_two min_two max_three min_three max_four min_four   -- for this text's walks alone
set_option linter.unusedVariables false
set_option linter.unusedSimpArgs false

/-! ### gimballaw07_DyadLaws: function 6 -/
def gimballaw07_DyadLaws.j0 : Nat → Bool → Option (Bool)
 | 0, _ => none
 | k + 1, x6 => some x6
def gimballaw07_DyadLaws.f (k : Nat) (a0 : Int) (a1 : Int) (a2 : Int) : Option (Bool) := (gimballaw07_head.f k).bind fun t937 => (if t937 = true then ((gimballaw07_of.f k a0).bind fun bt938 => ((gimballaw07_of.f k a1).bind fun bt944 => ((gimballaw07_of.f k a2).bind fun bt950 => ((dyad_Num_Add.f k bt938.1 bt938.2.1 bt938.2.2 bt944.1 bt944.2.1 bt944.2.2).bind fun bt956 => ((dyad_Num_Mul.f k bt956.1 bt956.2.1 bt956.2.2 bt950.1 bt950.2.1 bt950.2.2).bind fun bt961 => ((dyad_Num_Mul.f k bt950.1 bt950.2.1 bt950.2.2 bt938.1 bt938.2.1 bt938.2.2).bind fun bt967 => ((dyad_Num_Mul.f k bt944.1 bt944.2.1 bt944.2.2 bt950.1 bt950.2.1 bt950.2.2).bind fun bt972 => ((dyad_Num_Add.f k bt967.1 bt967.2.1 bt967.2.2 bt972.1 bt972.2.1 bt972.2.2).bind fun bt977 => ((dyad_Num_Same.f k bt961.1 bt961.2.1 bt961.2.2 bt977.1 bt977.2.1 bt977.2.2).bind fun t983 => (if t983 = true then ((dyad_Num_Add.f k bt938.1 bt938.2.1 bt938.2.2 bt944.1 bt944.2.1 bt944.2.2).bind fun bt984 => ((dyad_Num_Add.f k bt984.1 bt984.2.1 bt984.2.2 bt950.1 bt950.2.1 bt950.2.2).bind fun bt989 => ((dyad_Num_Add.f k bt950.1 bt950.2.1 bt950.2.2 bt938.1 bt938.2.1 bt938.2.2).bind fun bt994 => ((dyad_Num_Add.f k bt944.1 bt944.2.1 bt944.2.2 bt994.1 bt994.2.1 bt994.2.2).bind fun bt999 => ((dyad_Num_Same.f k bt989.1 bt989.2.1 bt989.2.2 bt999.1 bt999.2.1 bt999.2.2).bind fun t1004 => (if t1004 = true then ((dyad_Num_Sub.f k bt938.1 bt938.2.1 bt938.2.2 bt944.1 bt944.2.1 bt944.2.2).bind fun bt1005 => ((dyad_Num_Add.f k bt1005.1 bt1005.2.1 bt1005.2.2 bt944.1 bt944.2.1 bt944.2.2).bind fun bt1010 => ((dyad_Num_Same.f k bt1010.1 bt1010.2.1 bt1010.2.2 bt938.1 bt938.2.1 bt938.2.2).bind fun t1015 => (if t1015 = true then ((dyad_Num_Sub.f k bt938.1 bt938.2.1 bt938.2.2 bt938.1 bt938.2.1 bt938.2.2).bind fun bt1016 => ((dyad_Num_Sign.f bt1016.1 bt1016.2.1 bt1016.2.2).bind fun t1021 => (if t1021 = 0 then ((dyad_Num_Cmp.f k bt938.1 bt938.2.1 bt938.2.2 bt944.1 bt944.2.1 bt944.2.2).bind fun t1022 => ((dyad_Num_Cmp.f k bt944.1 bt944.2.1 bt944.2.2 bt938.1 bt938.2.1 bt938.2.2).bind fun t1023 => (if t1022 = (wrap64 (-t1023)) then ((dyad_Num_Cmp.f k bt938.1 bt938.2.1 bt938.2.2 bt944.1 bt944.2.1 bt944.2.2).bind fun t1024 => ((dyad_Num_Same.f k bt938.1 bt938.2.1 bt938.2.2 bt944.1 bt944.2.1 bt944.2.2).bind fun t1025 => (if ((t1024 == 0) == t1025) = true then ((dyad_Num_Abs.f bt938.1 bt938.2.1 bt938.2.2).bind fun bt1026 => ((dyad_Num_Sign.f bt1026.1 bt1026.2.1 bt1026.2.2).bind fun t1031 => (if t1031 ≥ 0 then ((dyad_Num_Neg.f bt938.1 bt938.2.1 bt938.2.2).bind fun bt1032 => ((dyad_Num_Neg.f bt1032.1 bt1032.2.1 bt1032.2.2).bind fun bt1037 => ((dyad_Num_Same.f k bt1037.1 bt1037.2.1 bt1037.2.2 bt938.1 bt938.2.1 bt938.2.2).bind fun t1042 => (if t1042 = true then ((dyad_Num_Neg.f bt938.1 bt938.2.1 bt938.2.2).bind fun bt1043 => ((dyad_Num_Sign.f bt1043.1 bt1043.2.1 bt1043.2.2).bind fun t1048 => ((dyad_Num_Sign.f bt938.1 bt938.2.1 bt938.2.2).bind fun t1049 => (if t1048 = (wrap64 (-t1049)) then ((dyad_Num_Add.f k bt938.1 bt938.2.1 bt938.2.2 bt938.1 bt938.2.1 bt938.2.2).bind fun bt1050 => ((dyad_Int.f k 2).bind fun bt1055 => ((dyad_Num_Mul.f k bt938.1 bt938.2.1 bt938.2.2 bt1055.1 bt1055.2.1 bt1055.2.2).bind fun bt1060 => ((dyad_Num_Same.f k bt1050.1 bt1050.2.1 bt1050.2.2 bt1060.1 bt1060.2.1 bt1060.2.2).bind fun t1065 => (gimballaw07_DyadLaws.j0 k t1065))))) else (gimballaw07_DyadLaws.j0 k false))))) else (gimballaw07_DyadLaws.j0 k false))))) else (gimballaw07_DyadLaws.j0 k false)))) else (gimballaw07_DyadLaws.j0 k false)))) else (gimballaw07_DyadLaws.j0 k false)))) else (gimballaw07_DyadLaws.j0 k false)))) else (gimballaw07_DyadLaws.j0 k false))))) else (gimballaw07_DyadLaws.j0 k false))))))) else (gimballaw07_DyadLaws.j0 k false))))))))))) else (some false))
theorem gimballaw07_DyadLaws.mono_l : ∀ k, (∀ y0, LeO (gimballaw07_DyadLaws.j0 k y0) (gimballaw07_DyadLaws.j0 (k + 1) y0))
 | 0 => fun _ r h => by simp [gimballaw07_DyadLaws.j0] at h
 | k + 1 => by
  have ih0 := gimballaw07_DyadLaws.mono_l k
  ·
   intro y0
   unfold gimballaw07_DyadLaws.j0
   repeat' with_reducible first | apply ih0 | apply dyad_Int.mono | apply dyad_Num_Add.mono | apply dyad_Num_Cmp.mono | apply dyad_Num_Mul.mono | apply dyad_Num_Same.mono | apply dyad_Num_Sub.mono | apply gimballaw07_head.mono | apply gimballaw07_of.mono | exact LeO.refl _ | exact LeO.none _ | refine LeO.ite ?_ ?_ | refine LeO.bind ?_ (fun _ => ?_)
theorem gimballaw07_DyadLaws.mono : ∀ a0 a1 a2 k, LeO (gimballaw07_DyadLaws.f k a0 a1 a2) (gimballaw07_DyadLaws.f (k + 1) a0 a1 a2) := by
 intro a0 a1 a2 k
 have ih0 := gimballaw07_DyadLaws.mono_l k
 unfold gimballaw07_DyadLaws.f
 repeat' with_reducible first | apply ih0 | apply dyad_Int.mono | apply dyad_Num_Add.mono | apply dyad_Num_Cmp.mono | apply dyad_Num_Mul.mono | apply dyad_Num_Same.mono | apply dyad_Num_Sub.mono | apply gimballaw07_head.mono | apply gimballaw07_of.mono | exact LeO.refl _ | exact LeO.none _ | refine LeO.ite ?_ ?_ | refine LeO.bind ?_ (fun _ => ?_)
def gimballaw07_DyadLaws.T7 : Bool × List (List Nat × List Nat) := (true, [([], []), ([], []), ([0, 1], [0, 1]), ([], []), ([], []), ([3, 4, 2], [3, 4]), ([2, 5, 5], [2, 5]), ([], []), ([7, 6, 6, 0, 1, 2, 3, 4, 5, 6, 7], [6, 7])])
def gimballaw07_DyadLaws.B7 : List Nat := [0, 0, 3, 0, 0, 31, 63, 0, 255]
theorem gimballaw07_DyadLaws.tab7 : rtab .any (opsOf Tryd.f6 7) = gimballaw07_DyadLaws.T7 := by kernel_rfl
theorem gimballaw07_DyadLaws.bits7 : waitsOk gimballaw07_DyadLaws.T7.2 gimballaw07_DyadLaws.B7 = true := by kernel_rfl
def gimballaw07_DyadLaws.T8 : Bool × List (List Nat × List Nat) := (true, [([], []), ([], []), ([0, 1], [0, 1]), ([2, 2], [2]), ([3], [3]), ([3], [3]), ([4, 5, 3, 3], [3, 4, 5]), ([3], [3]), ([6, 7, 6, 3], [3, 6, 7]), ([3], [3]), ([3], [3]), ([3], [3]), ([10, 11, 8, 3], [3, 10, 11]), ([9, 12, 12, 3], [3, 9, 12]), ([8, 13, 13, 3], [3, 8, 13]), ([3, 14], [3, 14]), ([15, 14], [15]), ([16], [16]), ([16], [16]), ([17, 18, 16, 16], [16, 17, 18]), ([16], [16]), ([19, 20, 19, 16], [16, 19, 20]), ([16], [16]), ([21, 22, 21, 16], [16, 21, 22]), ([16, 23], [16, 23]), ([24, 23], [24]), ([25], [25]), ([25], [25]), ([26, 27, 25, 25], [25, 26, 27]), ([28, 28, 25], [25, 28]), ([29, 25], [25, 29]), ([25, 30], [25, 30]), ([31, 29], [31]), ([32], [32]), ([32], [32]), ([33, 34, 32, 32], [32, 33, 34]), ([32], [32]), ([32], [32]), ([36, 37, 35, 32], [32, 36, 37]), ([38, 32], [32, 38]), ([35, 39, 32], [32, 35, 39]), ([32, 40], [32, 40]), ([41, 38], [41]), ([42], [42]), ([42], [42]), ([43, 44, 42, 42], [42, 43, 44]), ([45, 42], [42, 45]), ([42], [42]), ([42], [42]), ([47, 48, 45, 42], [42, 47, 48]), ([46, 49, 42], [42, 46, 49]), ([42, 50], [42, 50]), ([51, 49], [51]), ([52], [52]), ([53, 52, 52], [52, 53]), ([54, 54, 52], [52, 54]), ([55, 52], [52, 55]), ([52, 56], [52, 56]), ([57, 55], [57]), ([58], [58]), ([59, 58, 58], [58, 59]), ([60, 60, 58], [58, 60]), ([58], [58]), ([61, 62, 61, 58], [58, 61, 62]), ([58, 63], [58, 63]), ([64, 63], [64]), ([65], [65]), ([66, 65, 65], [65, 66]), ([67, 67, 65], [65, 67]), ([65], [65]), ([69, 68, 65], [65, 69]), ([70, 65], [65, 70]), ([68, 71, 65], [65, 68, 71]), ([65, 72], [65, 72]), ([73, 70], [73]), ([74], [74]), ([74], [74]), ([75, 76, 74, 74], [74, 75, 76]), ([74], [74]), ([77, 74], [74]), ([78, 79, 79, 74], [74, 78, 79]), ([77, 80, 80, 74], [74, 77, 80]), ([74, 81], [74, 81]), ([82, 81, 0, 1, 2, 3, 4, 5, 6, 7, 8, 9, 10, 11, 12, 13, 14, 15, 16, 17, 18, 19, 20, 21, 22, 23, 24, 25, 26, 27, 28, 29, 30, 31, 32, 33, 34, 35, 36, 37, 38, 39, 40, 41, 42, 43, 44, 45, 46, 47, 48, 49, 50, 51, 52, 53, 54, 55, 56, 57, 58, 59, 60, 61, 62, 63, 64, 65, 66, 67, 68, 69, 70, 71, 72, 73, 74, 75, 76, 77, 78, 79, 80, 81, 82], [82])])
def gimballaw07_DyadLaws.B8 : List Nat := [0, 0, 3, 7, 15, 15, 63, 15, 255, 15, 15, 15, 3583, 8191, 16383, 32767, 65535, 131071, 131071, 524287, 131071, 2097151, 131071, 8388607, 16777215, 33554431, 67108863, 67108863, 268435455, 536870911, 1073741823, 2147483647, 4294967295, 8589934591, 8589934591, 34359738367, 8589934591, 8589934591, 274877906943, 549755813887, 1099511627775, 2199023255551, 4398046511103, 8796093022207, 8796093022207, 35184372088831, 70368744177663, 8796093022207, 8796093022207, 492581209243647, 1125899906842623, 2251799813685247, 4503599627370495, 9007199254740991, 18014398509481983, 36028797018963967, 72057594037927935, 144115188075855871, 288230376151711743, 576460752303423487, 1152921504606846975, 2305843009213693951, 576460752303423487, 9223372036854775807, 18446744073709551615, 36893488147419103231, 73786976294838206463, 147573952589676412927, 295147905179352825855, 73786976294838206463, 1180591620717411303423, 2361183241434822606847, 4722366482869645213695, 9444732965739290427391, 18889465931478580854783, 37778931862957161709567, 37778931862957161709567, 151115727451828646838271, 37778931862957161709567, 302231454903657293676543, 1208925819614629174706175, 2417851639229258349412351, 4835703278458516698824703, 9671406556917033397649407]
theorem gimballaw07_DyadLaws.tab8 : rtab .any (opsOf Tryd.f6 8) = gimballaw07_DyadLaws.T8 := by kernel_rfl
theorem gimballaw07_DyadLaws.bits8 : waitsOk gimballaw07_DyadLaws.T8.2 gimballaw07_DyadLaws.B8 = true := by kernel_rfl
set_option maxHeartbeats 8000000 in
set_option maxRecDepth 100000 in
theorem gimballaw07_DyadLaws.calls (k : Nat) (a0 : Int) (a1 : Int) (a2 : Int) (r : Bool) (w : World) (hT : TabW w) (hLW : r = true) (h : gimballaw07_DyadLaws.f k a0 a1 a2 = some r) :
  Calls Tryd.prog 6 #[.int .u64 a0, .int .u64 a1, .int .u64 a2] w fun e w' => e = .returned (.bool r) ∧ Below w.heap.size w w' := by
 have hu26 := Tryd.underlying26
 have HB := Aside0.mk (Below.refl w.heap.size w)
 have H : ((gimballaw07_head.f k).bind fun t937 => (if t937 = true then ((gimballaw07_of.f k a0).bind fun bt938 => ((gimballaw07_of.f k a1).bind fun bt944 => ((gimballaw07_of.f k a2).bind fun bt950 => ((dyad_Num_Add.f k bt938.1 bt938.2.1 bt938.2.2 bt944.1 bt944.2.1 bt944.2.2).bind fun bt956 => ((dyad_Num_Mul.f k bt956.1 bt956.2.1 bt956.2.2 bt950.1 bt950.2.1 bt950.2.2).bind fun bt961 => ((dyad_Num_Mul.f k bt950.1 bt950.2.1 bt950.2.2 bt938.1 bt938.2.1 bt938.2.2).bind fun bt967 => ((dyad_Num_Mul.f k bt944.1 bt944.2.1 bt944.2.2 bt950.1 bt950.2.1 bt950.2.2).bind fun bt972 => ((dyad_Num_Add.f k bt967.1 bt967.2.1 bt967.2.2 bt972.1 bt972.2.1 bt972.2.2).bind fun bt977 => ((dyad_Num_Same.f k bt961.1 bt961.2.1 bt961.2.2 bt977.1 bt977.2.1 bt977.2.2).bind fun t983 => (if t983 = true then ((dyad_Num_Add.f k bt938.1 bt938.2.1 bt938.2.2 bt944.1 bt944.2.1 bt944.2.2).bind fun bt984 => ((dyad_Num_Add.f k bt984.1 bt984.2.1 bt984.2.2 bt950.1 bt950.2.1 bt950.2.2).bind fun bt989 => ((dyad_Num_Add.f k bt950.1 bt950.2.1 bt950.2.2 bt938.1 bt938.2.1 bt938.2.2).bind fun bt994 => ((dyad_Num_Add.f k bt944.1 bt944.2.1 bt944.2.2 bt994.1 bt994.2.1 bt994.2.2).bind fun bt999 => ((dyad_Num_Same.f k bt989.1 bt989.2.1 bt989.2.2 bt999.1 bt999.2.1 bt999.2.2).bind fun t1004 => (if t1004 = true then ((dyad_Num_Sub.f k bt938.1 bt938.2.1 bt938.2.2 bt944.1 bt944.2.1 bt944.2.2).bind fun bt1005 => ((dyad_Num_Add.f k bt1005.1 bt1005.2.1 bt1005.2.2 bt944.1 bt944.2.1 bt944.2.2).bind fun bt1010 => ((dyad_Num_Same.f k bt1010.1 bt1010.2.1 bt1010.2.2 bt938.1 bt938.2.1 bt938.2.2).bind fun t1015 => (if t1015 = true then ((dyad_Num_Sub.f k bt938.1 bt938.2.1 bt938.2.2 bt938.1 bt938.2.1 bt938.2.2).bind fun bt1016 => ((dyad_Num_Sign.f bt1016.1 bt1016.2.1 bt1016.2.2).bind fun t1021 => (if t1021 = 0 then ((dyad_Num_Cmp.f k bt938.1 bt938.2.1 bt938.2.2 bt944.1 bt944.2.1 bt944.2.2).bind fun t1022 => ((dyad_Num_Cmp.f k bt944.1 bt944.2.1 bt944.2.2 bt938.1 bt938.2.1 bt938.2.2).bind fun t1023 => (if t1022 = (wrap64 (-t1023)) then ((dyad_Num_Cmp.f k bt938.1 bt938.2.1 bt938.2.2 bt944.1 bt944.2.1 bt944.2.2).bind fun t1024 => ((dyad_Num_Same.f k bt938.1 bt938.2.1 bt938.2.2 bt944.1 bt944.2.1 bt944.2.2).bind fun t1025 => (if ((t1024 == 0) == t1025) = true then ((dyad_Num_Abs.f bt938.1 bt938.2.1 bt938.2.2).bind fun bt1026 => ((dyad_Num_Sign.f bt1026.1 bt1026.2.1 bt1026.2.2).bind fun t1031 => (if t1031 ≥ 0 then ((dyad_Num_Neg.f bt938.1 bt938.2.1 bt938.2.2).bind fun bt1032 => ((dyad_Num_Neg.f bt1032.1 bt1032.2.1 bt1032.2.2).bind fun bt1037 => ((dyad_Num_Same.f k bt1037.1 bt1037.2.1 bt1037.2.2 bt938.1 bt938.2.1 bt938.2.2).bind fun t1042 => (if t1042 = true then ((dyad_Num_Neg.f bt938.1 bt938.2.1 bt938.2.2).bind fun bt1043 => ((dyad_Num_Sign.f bt1043.1 bt1043.2.1 bt1043.2.2).bind fun t1048 => ((dyad_Num_Sign.f bt938.1 bt938.2.1 bt938.2.2).bind fun t1049 => (if t1048 = (wrap64 (-t1049)) then ((dyad_Num_Add.f k bt938.1 bt938.2.1 bt938.2.2 bt938.1 bt938.2.1 bt938.2.2).bind fun bt1050 => ((dyad_Int.f k 2).bind fun bt1055 => ((dyad_Num_Mul.f k bt938.1 bt938.2.1 bt938.2.2 bt1055.1 bt1055.2.1 bt1055.2.2).bind fun bt1060 => ((dyad_Num_Same.f k bt1050.1 bt1050.2.1 bt1050.2.2 bt1060.1 bt1060.2.1 bt1060.2.2).bind fun t1065 => (gimballaw07_DyadLaws.j0 k t1065))))) else (gimballaw07_DyadLaws.j0 k false))))) else (gimballaw07_DyadLaws.j0 k false))))) else (gimballaw07_DyadLaws.j0 k false)))) else (gimballaw07_DyadLaws.j0 k false)))) else (gimballaw07_DyadLaws.j0 k false)))) else (gimballaw07_DyadLaws.j0 k false)))) else (gimballaw07_DyadLaws.j0 k false))))) else (gimballaw07_DyadLaws.j0 k false))))))) else (gimballaw07_DyadLaws.j0 k false))))))))))) else (some false))) = some r := h
 clear h
 obtain ⟨t937, A40, H⟩ := Option.bind_eq_some_iff.mp H
 (try dsimp -simprocs only at H)
 have A4 := Aside0.mk A40
 clear A40
 by_cases c5 : t937 = true
 rotate_left
 ·
  replace c5 := Bool.eq_false_iff.mpr c5
  subst c5
  rw [if_neg (show ¬ (false = true) by decide)] at H
  rw [hLW] at H
  exact absurd H (by simp)

 subst c5
 rw [if_pos rfl] at H
 obtain ⟨⟨t938, t939, t942⟩, A60, H⟩ := Option.bind_eq_some_iff.mp H
 (try dsimp -simprocs only at H)
 have A6 := Aside0.mk A60
 clear A60
 obtain ⟨⟨t944, t945, t948⟩, A70, H⟩ := Option.bind_eq_some_iff.mp H
 (try dsimp -simprocs only at H)
 have A7 := Aside0.mk A70
 clear A70
 obtain ⟨⟨t950, t951, t954⟩, A80, H⟩ := Option.bind_eq_some_iff.mp H
 (try dsimp -simprocs only at H)
 have A8 := Aside0.mk A80
 clear A80
 obtain ⟨⟨t956, t957, t960⟩, A90, H⟩ := Option.bind_eq_some_iff.mp H
 (try dsimp -simprocs only at H)
 have A9 := Aside0.mk A90
 clear A90
 obtain ⟨⟨t961, t962, t965⟩, A100, H⟩ := Option.bind_eq_some_iff.mp H
 (try dsimp -simprocs only at H)
 have A10 := Aside0.mk A100
 clear A100
 obtain ⟨⟨t967, t968, t971⟩, A110, H⟩ := Option.bind_eq_some_iff.mp H
 (try dsimp -simprocs only at H)
 have A11 := Aside0.mk A110
 clear A110
 obtain ⟨⟨t972, t973, t976⟩, A120, H⟩ := Option.bind_eq_some_iff.mp H
 (try dsimp -simprocs only at H)
 have A12 := Aside0.mk A120
 clear A120
 obtain ⟨⟨t977, t978, t981⟩, A130, H⟩ := Option.bind_eq_some_iff.mp H
 (try dsimp -simprocs only at H)
 have A13 := Aside0.mk A130
 clear A130
 have HC14 := Aside0.mk H
 clear H
 go_enter Tryd.func6, Tryd.ntmps6
 try go_wp2_with (first | ((with_reducible refine gate_callee (f := 7) rfl ?_); refine goesL_ (some 12) rfl rfl Tryd.func7 (by kernel_rfl) rfl #[] rfl ga ?_; (with_reducible refine (gimballaw07_head.calls k  true _ ?side1 A4.out).mono ?_); (case side1 => first | exact hT | exact TabW.drewN hT _ | exact TabW.drew hT | exact TabW.below hT bel); rintro e w15 ⟨rfl, hb⟩; refine ⟨_, rfl, ?_⟩; refine ax1 (below_step bel hb) ?_; clear HB; intro HB; (try clear hb)) | ((with_reducible refine gate_callee (f := 21) rfl ?_); refine goesL_ (some 15) rfl rfl Tryd.func21 (by kernel_rfl) rfl #[.int .u64 a0] rfl ga ?_; (with_reducible refine (gimballaw07_of.calls k a0 t938 t939 t942 _ ?side1 A6.out).mono ?_); (case side1 => first | exact hT | exact TabW.drewN hT _ | exact TabW.drew hT | exact TabW.below hT bel); rintro e w16 ⟨v940, rfl, ho0, hb⟩; refine ⟨_, rfl, ?_⟩; refine ax2 (Kd.V_lower (Kd.V_mono (ok' := fun k_ => True) ho0 (fun k_ hk_ => trivial)) (below_size bel)) (below_step bel hb) ?_; clear HB; intro HO941 HB; (try clear hb); (try clear ho0)) | ((with_reducible refine gate_dst (N := 7) rfl ?_); refine gbox (N := 7) (cs := #[.bool false, .slice none 0 0, .int .i64 0]) (t := 26) ?_; intro gb943 hg w17 hbox hb; refine ax5 (Kd.V_below (Kd.V_elderB (kv HO941) gb943 (Nat.le_of_eq hg.symm)) hb) (below_step bel hb) hbox ((ge hg : w.heap.size ≤ gb943)) ((ge hg : w.heap.size ≤ gb943)) ?_; clear HO941; clear HB; intro HO941 HB BK943 GW943 GE943; clear hb hbox hg; have hcz18_0 := bc BK943 0 rfl; have hcz18_1 := bc BK943 1 rfl; have hcz18_2 := bc BK943 2 rfl; have hfz18_0 := blk_frozen BK943.out 0; have hfz18_1 := blk_frozen BK943.out 1; have hfz18_2 := blk_frozen BK943.out 2; obtain ⟨Ao19, co19, eo19⟩ := Kd.V_slice HO941.out; subst eo19) | ((with_reducible refine gate_callee (f := 21) rfl ?_); refine goesL_ (some 17) rfl rfl Tryd.func21 (by kernel_rfl) rfl #[.int .u64 a1] rfl ga ?_; (with_reducible refine (gimballaw07_of.calls k a1 t944 t945 t948 _ ?side1 A7.out).mono ?_); (case side1 => first | exact hT | exact TabW.drewN hT _ | exact TabW.drew hT | exact TabW.below hT bes); rintro e w20 ⟨v946, rfl, ho0, hb⟩; refine ⟨_, rfl, ?_⟩; refine ax4 (Kd.V_below (by (with_reducible repeat (first | apply Kd.V_alloc | apply Kd.V_drewN | apply Kd.V_drew)); exact (Kd.V_mono (Kd.V_far (p := ⟨gb943, 2, none⟩) (Kd.V_far (p := ⟨gb943, 1, none⟩) (Kd.V_far (p := ⟨gb943, 0, none⟩) (Kd.V_mono HO941.out (fun k_ hk => (⟨hk, hk.2⟩ : _ ∧ k_ ≠ gb943))) (fun _ hk => hk.2) (.bool t938)) (fun _ hk => hk.2) (.slice Ao19 t939.length co19)) (fun _ hk => hk.2) (.int .i64 t942)) (fun _ h_ => h_.1))) hb) (Kd.V_lower (Kd.V_mono (ok' := fun k_ => k_ ≠ gb943) ho0 (fun k_ hk_ => (Kd.freshB (g := gb943) (o := .cells #[.bool t938, .slice Ao19 t939.length co19, .int .i64 t942] 26 (0, 0)) (by (with_reducible repeat (first | refine blk_drewN ?_ _ | refine blk_drew ?_ | refine blk_alloc ?_ _)); refine blk_put (cs := #[.bool t938, .slice Ao19 t939.length co19, .int .i64 0]) ?_ 2 _ rfl; (with_reducible repeat (first | refine blk_drewN ?_ _ | refine blk_drew ?_ | refine blk_alloc ?_ _)); refine blk_put (cs := #[.bool t938, .slice none 0 0, .int .i64 0]) ?_ 1 _ rfl; (with_reducible repeat (first | refine blk_drewN ?_ _ | refine blk_drew ?_ | refine blk_alloc ?_ _)); refine blk_put (cs := #[.bool false, .slice none 0 0, .int .i64 0]) ?_ 0 _ rfl; (with_reducible repeat (first | refine blk_drewN ?_ _ | refine blk_drew ?_ | refine blk_alloc ?_ _)); exact BK943.out) k_ hk_))) (below_size bes)) (blk_below (g := gb943) (o := .cells #[.bool t938, .slice Ao19 t939.length co19, .int .i64 t942] 26 (0, 0)) (by (with_reducible repeat (first | refine blk_drewN ?_ _ | refine blk_drew ?_ | refine blk_alloc ?_ _)); refine blk_put (cs := #[.bool t938, .slice Ao19 t939.length co19, .int .i64 0]) ?_ 2 _ rfl; (with_reducible repeat (first | refine blk_drewN ?_ _ | refine blk_drew ?_ | refine blk_alloc ?_ _)); refine blk_put (cs := #[.bool t938, .slice none 0 0, .int .i64 0]) ?_ 1 _ rfl; (with_reducible repeat (first | refine blk_drewN ?_ _ | refine blk_drew ?_ | refine blk_alloc ?_ _)); refine blk_put (cs := #[.bool false, .slice none 0 0, .int .i64 0]) ?_ 0 _ rfl; (with_reducible repeat (first | refine blk_drewN ?_ _ | refine blk_drew ?_ | refine blk_alloc ?_ _)); exact BK943.out) hb) (below_step bes hb) ?_; clear HO941; clear BK943; clear HB; intro HO941 HO947 BK943 HB; (try clear hb); (try clear ho0)) | ((with_reducible refine gate_dst (N := 8) rfl ?_); refine gbox (N := 8) (cs := #[.bool false, .slice none 0 0, .int .i64 0]) (t := 26) ?_; intro gb949 hg w21 hbox hb; refine ax9 (Kd.V_below (Kd.V_elderB (kv HO941) gb949 (Nat.le_of_eq hg.symm)) hb) (Kd.V_below (Kd.V_elderB (kv HO947) gb949 (Nat.le_of_eq hg.symm)) hb) (bb BK943 hb) (below_step bes hb) hbox ((ge hg : w.heap.size ≤ gb949)) ((ge hg : w.heap.size ≤ gb949)) (nl hg BK943) (ng hg BK943) ?_; clear HO941; clear HO947; clear BK943; clear HB; intro HO941 HO947 BK943 HB BK949 GW949 GE949 NB943_949 NB949_943; clear hb hbox hg; have hnb22 := NB949_943.out; have hnc22 := NB943_949.out; have hcz23_0 := bc BK949 0 rfl; have hcz23_1 := bc BK949 1 rfl; have hcz23_2 := bc BK949 2 rfl; have hfz23_0 := blk_frozen BK949.out 0; have hfz23_1 := blk_frozen BK949.out 1; have hfz23_2 := blk_frozen BK949.out 2; obtain ⟨Ao24, co24, eo24⟩ := Kd.V_slice HO947.out; subst eo24) | ((with_reducible refine gate_callee (f := 21) rfl ?_); refine goesL_ (some 19) rfl rfl Tryd.func21 (by kernel_rfl) rfl #[.int .u64 a2] rfl ga ?_; (with_reducible refine (gimballaw07_of.calls k a2 t950 t951 t954 _ ?side1 A8.out).mono ?_); (case side1 => first | exact hT | exact TabW.drewN hT _ | exact TabW.drew hT | exact TabW.below hT bes); rintro e w25 ⟨v952, rfl, ho0, hb⟩; refine ⟨_, rfl, ?_⟩; refine ax6 (Kd.V_below (by (with_reducible repeat (first | apply Kd.V_alloc | apply Kd.V_drewN | apply Kd.V_drew)); exact (Kd.V_mono (Kd.V_far (p := ⟨gb949, 2, none⟩) (Kd.V_far (p := ⟨gb949, 1, none⟩) (Kd.V_far (p := ⟨gb949, 0, none⟩) (Kd.V_mono HO941.out (fun k_ hk => (⟨hk, hk.2⟩ : _ ∧ k_ ≠ gb949))) (fun _ hk => hk.2) (.bool t944)) (fun _ hk => hk.2) (.slice Ao24 t945.length co24)) (fun _ hk => hk.2) (.int .i64 t948)) (fun _ h_ => h_.1))) hb) (Kd.V_below (by (with_reducible repeat (first | apply Kd.V_alloc | apply Kd.V_drewN | apply Kd.V_drew)); exact (Kd.V_mono (Kd.V_far (p := ⟨gb949, 2, none⟩) (Kd.V_far (p := ⟨gb949, 1, none⟩) (Kd.V_far (p := ⟨gb949, 0, none⟩) (Kd.V_mono HO947.out (fun k_ hk => (⟨hk, hk.2⟩ : _ ∧ k_ ≠ gb949))) (fun _ hk => hk.2) (.bool t944)) (fun _ hk => hk.2) (.slice Ao24 t945.length co24)) (fun _ hk => hk.2) (.int .i64 t948)) (fun _ h_ => h_.1))) hb) (Kd.V_lower (Kd.V_mono (ok' := fun k_ => k_ ≠ gb943 ∧ k_ ≠ gb949) ho0 (fun k_ hk_ => ⟨(Kd.freshB (g := gb943) (o := .cells #[.bool t938, .slice Ao19 t939.length co19, .int .i64 t942] 26 (0, 0)) (by (with_reducible repeat (first | refine blk_drewN ?_ _ | refine blk_drew ?_ | refine blk_alloc ?_ _)); refine blk_far ?_ NB943_949.out _; (with_reducible repeat (first | refine blk_drewN ?_ _ | refine blk_drew ?_ | refine blk_alloc ?_ _)); refine blk_far ?_ NB943_949.out _; (with_reducible repeat (first | refine blk_drewN ?_ _ | refine blk_drew ?_ | refine blk_alloc ?_ _)); refine blk_far ?_ NB943_949.out _; (with_reducible repeat (first | refine blk_drewN ?_ _ | refine blk_drew ?_ | refine blk_alloc ?_ _)); exact BK943.out) k_ hk_), (Kd.freshB (g := gb949) (o := .cells #[.bool t944, .slice Ao24 t945.length co24, .int .i64 t948] 26 (0, 0)) (by (with_reducible repeat (first | refine blk_drewN ?_ _ | refine blk_drew ?_ | refine blk_alloc ?_ _)); refine blk_put (cs := #[.bool t944, .slice Ao24 t945.length co24, .int .i64 0]) ?_ 2 _ rfl; (with_reducible repeat (first | refine blk_drewN ?_ _ | refine blk_drew ?_ | refine blk_alloc ?_ _)); refine blk_put (cs := #[.bool t944, .slice none 0 0, .int .i64 0]) ?_ 1 _ rfl; (with_reducible repeat (first | refine blk_drewN ?_ _ | refine blk_drew ?_ | refine blk_alloc ?_ _)); refine blk_put (cs := #[.bool false, .slice none 0 0, .int .i64 0]) ?_ 0 _ rfl; (with_reducible repeat (first | refine blk_drewN ?_ _ | refine blk_drew ?_ | refine blk_alloc ?_ _)); exact BK949.out) k_ hk_)⟩)) (below_size bes)) (blk_below (g := gb943) (o := .cells #[.bool t938, .slice Ao19 t939.length co19, .int .i64 t942] 26 (0, 0)) (by (with_reducible repeat (first | refine blk_drewN ?_ _ | refine blk_drew ?_ | refine blk_alloc ?_ _)); refine blk_far ?_ NB943_949.out _; (with_reducible repeat (first | refine blk_drewN ?_ _ | refine blk_drew ?_ | refine blk_alloc ?_ _)); refine blk_far ?_ NB943_949.out _; (with_reducible repeat (first | refine blk_drewN ?_ _ | refine blk_drew ?_ | refine blk_alloc ?_ _)); refine blk_far ?_ NB943_949.out _; (with_reducible repeat (first | refine blk_drewN ?_ _ | refine blk_drew ?_ | refine blk_alloc ?_ _)); exact BK943.out) hb) (blk_below (g := gb949) (o := .cells #[.bool t944, .slice Ao24 t945.length co24, .int .i64 t948] 26 (0, 0)) (by (with_reducible repeat (first | refine blk_drewN ?_ _ | refine blk_drew ?_ | refine blk_alloc ?_ _)); refine blk_put (cs := #[.bool t944, .slice Ao24 t945.length co24, .int .i64 0]) ?_ 2 _ rfl; (with_reducible repeat (first | refine blk_drewN ?_ _ | refine blk_drew ?_ | refine blk_alloc ?_ _)); refine blk_put (cs := #[.bool t944, .slice none 0 0, .int .i64 0]) ?_ 1 _ rfl; (with_reducible repeat (first | refine blk_drewN ?_ _ | refine blk_drew ?_ | refine blk_alloc ?_ _)); refine blk_put (cs := #[.bool false, .slice none 0 0, .int .i64 0]) ?_ 0 _ rfl; (with_reducible repeat (first | refine blk_drewN ?_ _ | refine blk_drew ?_ | refine blk_alloc ?_ _)); exact BK949.out) hb) (below_step bes hb) ?_; clear HO941; clear HO947; clear BK943; clear BK949; clear HB; intro HO941 HO947 HO953 BK943 BK949 HB; (try clear hb); (try clear ho0)) | ((with_reducible refine gate_dst (N := 9) rfl ?_); refine gbox (N := 9) (cs := #[.bool false, .slice none 0 0, .int .i64 0]) (t := 26) ?_; intro gb955 hg w26 hbox hb; refine ax13 (Kd.V_below (Kd.V_elderB (kv HO941) gb955 (Nat.le_of_eq hg.symm)) hb) (Kd.V_below (Kd.V_elderB (kv HO947) gb955 (Nat.le_of_eq hg.symm)) hb) (Kd.V_below (Kd.V_elderB (kv HO953) gb955 (Nat.le_of_eq hg.symm)) hb) (bb BK943 hb) (bb BK949 hb) (below_step bes hb) hbox ((ge hg : w.heap.size ≤ gb955)) ((ge hg : w.heap.size ≤ gb955)) (nl hg BK943) (ng hg BK943) (nl hg BK949) (ng hg BK949) ?_; clear HO941; clear HO947; clear HO953; clear BK943; clear BK949; clear HB; intro HO941 HO947 HO953 BK943 BK949 HB BK955 GW955 GE955 NB943_955 NB955_943 NB949_955 NB955_949; clear hb hbox hg; have hnb27 := NB955_943.out; have hnc27 := NB943_955.out; have hnb28 := NB955_949.out; have hnc28 := NB949_955.out; have hcz29_0 := bc BK955 0 rfl; have hcz29_1 := bc BK955 1 rfl; have hcz29_2 := bc BK955 2 rfl; have hfz29_0 := blk_frozen BK955.out 0; have hfz29_1 := blk_frozen BK955.out 1; have hfz29_2 := blk_frozen BK955.out 2; obtain ⟨Ao30, co30, eo30⟩ := Kd.V_slice HO953.out; subst eo30))
 have n0_ : Aside0 (Kd.V (Kd.int .u32) 56 (((w26.setCell ⟨gb955, 0, none⟩ (.bool t950)).setCell ⟨gb955, 1, none⟩ (.slice Ao30 t951.length co30)).setCell ⟨gb955, 2, none⟩ (.int .i64 t954)) w.heap.size (fun k_ => k_ ≠ gb943 ∧ k_ ≠ gb949 ∧ k_ ≠ gb955) (.slice Ao19 t939.length co19) t939) := ⟨by (with_reducible repeat (first | apply Kd.V_alloc | apply Kd.V_drewN | apply Kd.V_drew)); exact Kd.V_mono (Kd.V_far (p := ⟨gb955, 2, none⟩) (Kd.V_far (p := ⟨gb955, 1, none⟩) (Kd.V_far (p := ⟨gb955, 0, none⟩) (Kd.V_mono HO941.out (fun k_ hk => (⟨hk, hk.2⟩ : _ ∧ k_ ≠ gb955))) (fun _ hk => hk.2) (.bool t950)) (fun _ hk => hk.2) (.slice Ao30 t951.length co30)) (fun _ hk => hk.2) (.int .i64 t954)) (fun _ hk => ⟨hk.1.1.1.2, ⟨hk.1.1.2, hk.1.2⟩⟩)⟩
 have n1_ : Aside0 (Kd.V (Kd.int .u32) 56 (((w26.setCell ⟨gb955, 0, none⟩ (.bool t950)).setCell ⟨gb955, 1, none⟩ (.slice Ao30 t951.length co30)).setCell ⟨gb955, 2, none⟩ (.int .i64 t954)) w.heap.size (fun k_ => k_ ≠ gb943 ∧ k_ ≠ gb949 ∧ k_ ≠ gb955) (.slice Ao24 t945.length co24) t945) := ⟨by (with_reducible repeat (first | apply Kd.V_alloc | apply Kd.V_drewN | apply Kd.V_drew)); exact Kd.V_mono (Kd.V_far (p := ⟨gb955, 2, none⟩) (Kd.V_far (p := ⟨gb955, 1, none⟩) (Kd.V_far (p := ⟨gb955, 0, none⟩) (Kd.V_mono HO947.out (fun k_ hk => (⟨hk, hk.2⟩ : _ ∧ k_ ≠ gb955))) (fun _ hk => hk.2) (.bool t950)) (fun _ hk => hk.2) (.slice Ao30 t951.length co30)) (fun _ hk => hk.2) (.int .i64 t954)) (fun _ hk => ⟨hk.1.1.1, ⟨hk.1.1.2, hk.1.2⟩⟩)⟩
 have n2_ : Aside0 (Kd.V (Kd.int .u32) 56 (((w26.setCell ⟨gb955, 0, none⟩ (.bool t950)).setCell ⟨gb955, 1, none⟩ (.slice Ao30 t951.length co30)).setCell ⟨gb955, 2, none⟩ (.int .i64 t954)) w.heap.size (fun k_ => k_ ≠ gb943 ∧ k_ ≠ gb949 ∧ k_ ≠ gb955) (.slice Ao30 t951.length co30) t951) := ⟨by (with_reducible repeat (first | apply Kd.V_alloc | apply Kd.V_drewN | apply Kd.V_drew)); exact Kd.V_mono (Kd.V_far (p := ⟨gb955, 2, none⟩) (Kd.V_far (p := ⟨gb955, 1, none⟩) (Kd.V_far (p := ⟨gb955, 0, none⟩) (Kd.V_mono HO953.out (fun k_ hk => (⟨hk, hk.2⟩ : _ ∧ k_ ≠ gb955))) (fun _ hk => hk.2) (.bool t950)) (fun _ hk => hk.2) (.slice Ao30 t951.length co30)) (fun _ hk => hk.2) (.int .i64 t954)) (fun _ hk => ⟨hk.1.1.1, ⟨hk.1.1.2, hk.1.2⟩⟩)⟩
 have n3_ : Aside0 ((((w26.setCell ⟨gb955, 0, none⟩ (.bool t950)).setCell ⟨gb955, 1, none⟩ (.slice Ao30 t951.length co30)).setCell ⟨gb955, 2, none⟩ (.int .i64 t954)).heap[gb943]? = some (.cells #[.bool t938, .slice Ao19 t939.length co19, .int .i64 t942] 26 (0, 0))) := ⟨by (with_reducible repeat (first | refine blk_drewN ?_ _ | refine blk_drew ?_ | refine blk_alloc ?_ _)); refine blk_far ?_ NB943_955.out _; (with_reducible repeat (first | refine blk_drewN ?_ _ | refine blk_drew ?_ | refine blk_alloc ?_ _)); refine blk_far ?_ NB943_955.out _; (with_reducible repeat (first | refine blk_drewN ?_ _ | refine blk_drew ?_ | refine blk_alloc ?_ _)); refine blk_far ?_ NB943_955.out _; (with_reducible repeat (first | refine blk_drewN ?_ _ | refine blk_drew ?_ | refine blk_alloc ?_ _)); exact BK943.out⟩
 have n4_ : Aside0 ((((w26.setCell ⟨gb955, 0, none⟩ (.bool t950)).setCell ⟨gb955, 1, none⟩ (.slice Ao30 t951.length co30)).setCell ⟨gb955, 2, none⟩ (.int .i64 t954)).heap[gb949]? = some (.cells #[.bool t944, .slice Ao24 t945.length co24, .int .i64 t948] 26 (0, 0))) := ⟨by (with_reducible repeat (first | refine blk_drewN ?_ _ | refine blk_drew ?_ | refine blk_alloc ?_ _)); refine blk_far ?_ NB949_955.out _; (with_reducible repeat (first | refine blk_drewN ?_ _ | refine blk_drew ?_ | refine blk_alloc ?_ _)); refine blk_far ?_ NB949_955.out _; (with_reducible repeat (first | refine blk_drewN ?_ _ | refine blk_drew ?_ | refine blk_alloc ?_ _)); refine blk_far ?_ NB949_955.out _; (with_reducible repeat (first | refine blk_drewN ?_ _ | refine blk_drew ?_ | refine blk_alloc ?_ _)); exact BK949.out⟩
 have n5_ : Aside0 ((((w26.setCell ⟨gb955, 0, none⟩ (.bool t950)).setCell ⟨gb955, 1, none⟩ (.slice Ao30 t951.length co30)).setCell ⟨gb955, 2, none⟩ (.int .i64 t954)).heap[gb955]? = some (.cells #[.bool t950, .slice Ao30 t951.length co30, .int .i64 t954] 26 (0, 0))) := ⟨by (with_reducible repeat (first | refine blk_drewN ?_ _ | refine blk_drew ?_ | refine blk_alloc ?_ _)); refine blk_put (cs := #[.bool t950, .slice Ao30 t951.length co30, .int .i64 0]) ?_ 2 _ rfl; (with_reducible repeat (first | refine blk_drewN ?_ _ | refine blk_drew ?_ | refine blk_alloc ?_ _)); refine blk_put (cs := #[.bool t950, .slice none 0 0, .int .i64 0]) ?_ 1 _ rfl; (with_reducible repeat (first | refine blk_drewN ?_ _ | refine blk_drew ?_ | refine blk_alloc ?_ _)); refine blk_put (cs := #[.bool false, .slice none 0 0, .int .i64 0]) ?_ 0 _ rfl; (with_reducible repeat (first | refine blk_drewN ?_ _ | refine blk_drew ?_ | refine blk_alloc ?_ _)); exact BK955.out⟩
 have n6_ : Aside0 (Below w.heap.size w (((w26.setCell ⟨gb955, 0, none⟩ (.bool t950)).setCell ⟨gb955, 1, none⟩ (.slice Ao30 t951.length co30)).setCell ⟨gb955, 2, none⟩ (.int .i64 t954))) := ⟨bes⟩
 (try clear HO941)
 (try clear HO947)
 (try clear HO953)
 (try clear BK943)
 (try clear BK949)
 (try clear BK955)
 (try clear HB)
 generalize (((w26.setCell ⟨gb955, 0, none⟩ (.bool t950)).setCell ⟨gb955, 1, none⟩ (.slice Ao30 t951.length co30)).setCell ⟨gb955, 2, none⟩ (.int .i64 t954)) = w31 at n0_ n1_ n2_ n3_ n4_ n5_ n6_ ⊢
 have HO941 := n0_
 have HO947 := n1_
 have HO953 := n2_
 have BK943 := n3_
 have BK949 := n4_
 have BK955 := n5_
 have HB := n6_
 clear n0_ n1_ n2_ n3_ n4_ n5_ n6_
 refine ax7 (Kd.V_drew HO941.out) (Kd.V_drew HO947.out) (Kd.V_drew HO953.out) (blk_drew BK943.out) (blk_drew BK949.out) (blk_drew BK955.out) (below_drew1 HB.out) ?_
 clear HO941 HO947 HO953 BK943 BK949 BK955 HB
 intro HO941 HO947 HO953 BK943 BK949 BK955 HB
 refine start_ (n := 7) (S := fun w' => w'.cell? ⟨gb943, 0, none⟩ = some (.bool t938) ∧ w'.cell? ⟨gb943, 1, none⟩ = some (.slice Ao19 t939.length co19) ∧ w'.cell? ⟨gb943, 2, none⟩ = some (.int .i64 t942) ∧ w'.cell? ⟨gb949, 0, none⟩ = some (.bool t944) ∧ w'.cell? ⟨gb949, 1, none⟩ = some (.slice Ao24 t945.length co24) ∧ w'.cell? ⟨gb949, 2, none⟩ = some (.int .i64 t948) ∧ w'.cell? ⟨gb955, 0, none⟩ = some (.bool t950) ∧ w'.cell? ⟨gb955, 1, none⟩ = some (.slice Ao30 t951.length co30) ∧ w'.cell? ⟨gb955, 2, none⟩ = some (.int .i64 t954)) (ds := []) #[false, false, false, false, false, false, false] (by kernel_rfl) rfl rfl ⟨(blk_cell BK943.out 0).trans rfl, (blk_cell BK943.out 1).trans rfl, (blk_cell BK943.out 2).trans rfl, (blk_cell BK949.out 0).trans rfl, (blk_cell BK949.out 1).trans rfl, (blk_cell BK949.out 2).trans rfl, (blk_cell BK955.out 0).trans rfl, (blk_cell BK955.out 1).trans rfl, (blk_cell BK955.out 2).trans rfl⟩ (fun hHeld => ?_)
 generalize w31.drew = w32 at HO941 HO947 HO953 BK943 BK949 BK955 HB hHeld ⊢
 refine take_ (i := 0) (N := some 20) (v := ?_) (a' := ?_) #[true, false, false, false, false, false, false] rfl rfl (by kernel_rfl) (fun _ _ _ h => h) (Or.inl ⟨by rfl, ?_⟩) hHeld ?_ ?_
 rotate_left
 ·
  rintro w' ⟨s0, s1, s2, s3, s4, s5, s6, s7, s8⟩
  go_simp
  with_reducible rfl
 rotate_left
 ·
  simp only [Act.put, sa0, sa1, sa2, i64_w, i32_w]
  rfl
 refine take_ (i := 1) (N := some 21) (v := ?_) (a' := ?_) #[true, true, false, false, false, false, false] rfl rfl (by kernel_rfl) (fun _ _ _ h => h) (Or.inl ⟨by rfl, ?_⟩) hHeld ?_ ?_
 rotate_left
 ·
  rintro w' ⟨s0, s1, s2, s3, s4, s5, s6, s7, s8⟩
  go_simp
  with_reducible rfl
 rotate_left
 ·
  simp only [Act.put, sa0, sa1, sa2, i64_w, i32_w]
  rfl
 refine take_ (i := 3) (N := some 23) (v := ?_) (a' := ?_) #[true, true, false, true, false, false, false] rfl rfl (by kernel_rfl) (fun _ _ _ h => h) (Or.inl ⟨by rfl, ?_⟩) hHeld ?_ ?_
 rotate_left
 ·
  rintro w' ⟨s0, s1, s2, s3, s4, s5, s6, s7, s8⟩
  go_simp
  with_reducible rfl
 rotate_left
 ·
  simp only [Act.put, sa0, sa1, sa2, i64_w, i32_w]
  rfl
 refine join_ (σ := Value × Value × Nat) 1 #[true, true, true, true, true, true, false] (fun s_ => [(22, .agg #[.bool t956, s_.1, .int .i64 t960]), (24, .agg #[.bool t961, s_.2.1, .int .i64 t965]), (10, .pointer (some ⟨s_.2.2, 0, none⟩))]) (fun s_ w' => (w'.cell? ⟨gb943, 0, none⟩ = some (.bool t938) ∧ w'.cell? ⟨gb943, 1, none⟩ = some (.slice Ao19 t939.length co19) ∧ w'.cell? ⟨gb943, 2, none⟩ = some (.int .i64 t942) ∧ w'.cell? ⟨gb949, 0, none⟩ = some (.bool t944) ∧ w'.cell? ⟨gb949, 1, none⟩ = some (.slice Ao24 t945.length co24) ∧ w'.cell? ⟨gb949, 2, none⟩ = some (.int .i64 t948) ∧ w'.cell? ⟨gb955, 0, none⟩ = some (.bool t950) ∧ w'.cell? ⟨gb955, 1, none⟩ = some (.slice Ao30 t951.length co30) ∧ w'.cell? ⟨gb955, 2, none⟩ = some (.int .i64 t954)) ∧ (Kd.V (Kd.int .u32) 56 w' w.heap.size (fun k_ => k_ ≠ gb943 ∧ k_ ≠ gb949 ∧ k_ ≠ gb955 ∧ k_ ≠ s_.2.2) (.slice Ao19 t939.length co19) t939) ∧ (Kd.V (Kd.int .u32) 56 w' w.heap.size (fun k_ => k_ ≠ gb943 ∧ k_ ≠ gb949 ∧ k_ ≠ gb955 ∧ k_ ≠ s_.2.2) (.slice Ao24 t945.length co24) t945) ∧ (Kd.V (Kd.int .u32) 56 w' w.heap.size (fun k_ => k_ ≠ gb943 ∧ k_ ≠ gb949 ∧ k_ ≠ gb955 ∧ k_ ≠ s_.2.2) (.slice Ao30 t951.length co30) t951) ∧ (Kd.V (Kd.int .u32) 56 w' w.heap.size (fun k_ => k_ ≠ gb943 ∧ k_ ≠ gb949 ∧ k_ ≠ gb955 ∧ k_ ≠ s_.2.2) s_.1 t957) ∧ (Kd.V (Kd.int .u32) 56 w' w.heap.size (fun k_ => k_ ≠ gb943 ∧ k_ ≠ gb949 ∧ k_ ≠ gb955 ∧ k_ ≠ s_.2.2) s_.2.1 t962) ∧ (w'.heap[gb943]? = some (.cells #[.bool t938, .slice Ao19 t939.length co19, .int .i64 t942] 26 (0, 0))) ∧ (w'.heap[gb949]? = some (.cells #[.bool t944, .slice Ao24 t945.length co24, .int .i64 t948] 26 (0, 0))) ∧ (w'.heap[gb955]? = some (.cells #[.bool t950, .slice Ao30 t951.length co30, .int .i64 t954] 26 (0, 0))) ∧ (w'.heap[s_.2.2]? = some (.cells #[.bool false, .slice none 0 0, .int .i64 0] 26 (0, 0))) ∧ (w.heap.size ≤ s_.2.2) ∧ (w.heap.size ≤ s_.2.2) ∧ (gb943 ≠ s_.2.2) ∧ (s_.2.2 ≠ gb943) ∧ (gb949 ≠ s_.2.2) ∧ (s_.2.2 ≠ gb949) ∧ (gb955 ≠ s_.2.2) ∧ (s_.2.2 ≠ gb955) ∧ (Below w.heap.size w w')) ?_ ?_
 rotate_left
 ·
  intro hCont
  refine two_ (i := 2) (j := 5) (Ni := some 22) (Nj := some 10) #[true, true, true, true, false, false, false] #[true, true, false, true, false, true, false] rfl rfl rfl rfl (by kernel_rfl) (by decide) (by decide) (fun K hK => ?_) (fun K hK => ?_)
  ·
   skip
   refine goes_ Tryd.func11 (by kernel_rfl) rfl #[.agg #[.bool t938, .slice Ao19 t939.length co19, .int .i64 t942], .agg #[.bool t944, .slice Ao24 t945.length co24, .int .i64 t948]] (by rfl) rfl rfl ga ?_
   with_reducible refine (dyad_Num_Add.calls k t938 (fun k_ => (k_ ≠ gb943 ∧ (k_ ≠ gb949 ∧ k_ ≠ gb955))) _ _ t939 t942 t944 (fun k_ => (k_ ≠ gb943 ∧ (k_ ≠ gb949 ∧ k_ ≠ gb955))) _ _ t945 t948 t956 t957 t960 _ ?side1 ?side2 ?side3 A9.out).mono ?_
   (case side1 => exact HO941.out)
   (case side2 => exact HO947.out)
   (case side3 => first | exact hT | exact TabW.drewN hT _ | exact TabW.drew hT | exact TabW.below hT bes)
   rintro e w33 ⟨v958, rfl, ho0, hb⟩
   refine ⟨_, rfl, ?_⟩
   refine ax8 (Kd.V_below (kv HO941) hb) (Kd.V_below (kv HO947) hb) (Kd.V_below (kv HO953) hb) (Kd.V_lower (Kd.V_mono (ok' := fun k_ => k_ ≠ gb943 ∧ k_ ≠ gb949 ∧ k_ ≠ gb955) ho0 (fun k_ hk_ => ⟨Or.elim hk_ (fun hs_ => Or.elim hs_ (fun hs_ => hs_.1) (fun hs_ => hs_.1)) (fun hn_ => (fb BK943 k_ hn_)), Or.elim hk_ (fun hs_ => Or.elim hs_ (fun hs_ => hs_.2.1) (fun hs_ => hs_.2.1)) (fun hn_ => (fb BK949 k_ hn_)), Or.elim hk_ (fun hs_ => Or.elim hs_ (fun hs_ => hs_.2.2) (fun hs_ => hs_.2.2)) (fun hn_ => (fb BK955 k_ hn_))⟩)) (below_size bes)) (bb BK943 hb) (bb BK949 hb) (bb BK955 hb) (below_step bes hb) ?_
   clear HO941 HO947 HO953 BK943 BK949 BK955 HB
   intro HO941 HO947 HO953 HO959 BK943 BK949 BK955 HB
   (try clear hb)
   (try clear hb2)
   (try clear hk)
   (try clear hi)
   (try clear ho0)
   obtain ⟨Ao34, co34, eo34⟩ := Kd.V_slice HO959.out
   (first | subst eo34 | (injection eo34 with f1_ f2_ f3_; have f4_ := f1_.symm; have f5_ := f3_.symm; clear f1_ f2_ f3_; subst f4_; subst f5_))
   refine hK.out _ _ ⟨(blk_cell BK943.out 0).trans rfl, (blk_cell BK943.out 1).trans rfl, (blk_cell BK943.out 2).trans rfl, (blk_cell BK949.out 0).trans rfl, (blk_cell BK949.out 1).trans rfl, (blk_cell BK949.out 2).trans rfl, (blk_cell BK955.out 0).trans rfl, (blk_cell BK955.out 1).trans rfl, (blk_cell BK955.out 2).trans rfl⟩ (fun hHeld => ?_)
   clear hK K
   refine norm_ (a' := ?_) ?_ ?_
   rotate_left
   ·
    show Act.put _ (some 22) _ = _
    simp only [Act.put, sa0, sa1, sa2, i64_w, i32_w]
    rfl
   refine two_ (i := 4) (j := 5) (Ni := some 24) (Nj := some 10) #[true, true, true, true, true, false, false] #[true, true, true, true, false, true, false] rfl rfl rfl rfl (by kernel_rfl) (by decide) (by decide) (fun K hK => ?_) (fun K hK => ?_)
   ·
    skip
    refine goes_ Tryd.func13 (by kernel_rfl) rfl #[.agg #[.bool t956, .slice Ao34 t957.length co34, .int .i64 t960], .agg #[.bool t950, .slice Ao30 t951.length co30, .int .i64 t954]] (by rfl) rfl rfl ga ?_
    with_reducible refine (dyad_Num_Mul.calls k t956 _ _ t957 t960 t950 _ _ t951 t954 t961 t962 t965 _ ?side1 ?side2 ?side3 ?side4 ?side5 A10.out).mono ?_
    (case side1 => exact kvs HO959)
    (case side2 => exact (Kd.V_reads' HO959.out).2.1)
    (case side3 => exact kvs HO953)
    (case side4 => exact (Kd.V_reads' HO953.out).2.1)
    (case side5 => first | exact hT | exact TabW.drewN hT _ | exact TabW.drew hT | exact TabW.below hT bes)
    rintro e w35 ⟨v963, rfl, ho0, hb⟩
    refine ⟨_, rfl, ?_⟩
    refine ax9 (Kd.V_below (kv HO941) hb) (Kd.V_below (kv HO947) hb) (Kd.V_below (kv HO953) hb) (Kd.V_below (kv HO959) hb) (Kd.V_lower (Kd.V_mono (ok' := fun k_ => k_ ≠ gb943 ∧ k_ ≠ gb949 ∧ k_ ≠ gb955) ho0 (fun k_ hk_ => ⟨(fb BK943 k_ hk_), (fb BK949 k_ hk_), (fb BK955 k_ hk_)⟩)) (below_size bes)) (bb BK943 hb) (bb BK949 hb) (bb BK955 hb) (below_step bes hb) ?_
    clear HO941 HO947 HO953 HO959 BK943 BK949 BK955 HB
    intro HO941 HO947 HO953 HO959 HO964 BK943 BK949 BK955 HB
    (try clear hb)
    (try clear hb2)
    (try clear hk)
    (try clear hi)
    (try clear ho0)
    refine hK.out _ _ ⟨(blk_cell BK943.out 0).trans rfl, (blk_cell BK943.out 1).trans rfl, (blk_cell BK943.out 2).trans rfl, (blk_cell BK949.out 0).trans rfl, (blk_cell BK949.out 1).trans rfl, (blk_cell BK949.out 2).trans rfl, (blk_cell BK955.out 0).trans rfl, (blk_cell BK955.out 1).trans rfl, (blk_cell BK955.out 2).trans rfl⟩ (fun hHeld => ?_)
    clear hK K
    refine norm_ (a' := ?_) ?_ ?_
    rotate_left
    ·
     show Act.put _ (some 24) _ = _
     simp only [Act.put, sa0, sa1, sa2, i64_w, i32_w]
     rfl
    refine one_ (i := 5) (N := some 10) #[true, true, true, true, true, true, false] rfl rfl (by kernel_rfl) (by decide) (fun K hK => ?_)
    refine box_step ?hg (N := 10) ?hd (cs := #[.bool false, .slice none 0 0, .int .i64 0]) (t := 26) ?hr ?_; (case hd => rfl); (case hg => rfl); (case hr => first | (go_simp; done) | (go_simp; rfl))
    intro gb966 hg w36 hbox hb
    refine ax18 (Kd.V_below (Kd.V_elderB (kv HO941) gb966 (Nat.le_of_eq hg.symm)) hb) (Kd.V_below (Kd.V_elderB (kv HO947) gb966 (Nat.le_of_eq hg.symm)) hb) (Kd.V_below (Kd.V_elderB (kv HO953) gb966 (Nat.le_of_eq hg.symm)) hb) (Kd.V_below (Kd.V_elderB (kv HO959) gb966 (Nat.le_of_eq hg.symm)) hb) (Kd.V_below (Kd.V_elderB (kv HO964) gb966 (Nat.le_of_eq hg.symm)) hb) (bb BK943 hb) (bb BK949 hb) (bb BK955 hb) (below_step bes hb) hbox ((ge hg : w.heap.size ≤ gb966)) ((ge hg : w.heap.size ≤ gb966)) (nl hg BK943) (ng hg BK943) (nl hg BK949) (ng hg BK949) (nl hg BK955) (ng hg BK955) ?_
    clear HO941 HO947 HO953 HO959 HO964 BK943 BK949 BK955 HB
    intro HO941 HO947 HO953 HO959 HO964 BK943 BK949 BK955 HB BK966 GW966 GE966 NB943_966 NB966_943 NB949_966 NB966_949 NB955_966 NB966_955
    clear hb hbox hg
    refine hK.out _ _ ⟨(blk_cell BK943.out 0).trans rfl, (blk_cell BK943.out 1).trans rfl, (blk_cell BK943.out 2).trans rfl, (blk_cell BK949.out 0).trans rfl, (blk_cell BK949.out 1).trans rfl, (blk_cell BK949.out 2).trans rfl, (blk_cell BK955.out 0).trans rfl, (blk_cell BK955.out 1).trans rfl, (blk_cell BK955.out 2).trans rfl⟩ (fun hHeld => ?_)
    clear hK K
    refine norm_ (a' := ?_) ?_ ?_
    rotate_left
    ·
     show Act.put _ (some 10) _ = _
     simp only [Act.put, sa0, sa1, sa2, i64_w, i32_w]
     rfl
    exact norm_ (by simp only [putAll, Act.put, List.setIfInBounds_toArray, List.set_cons_zero, List.set_cons_succ]) (hCont (.slice Ao34 t957.length co34, v963, gb966) _ ⟨hHeld, (by (with_reducible repeat (first | apply Kd.V_alloc | apply Kd.V_drewN | apply Kd.V_drew)); exact Kd.V_mono HO941.out (fun _ hk => ⟨hk.1.1, ⟨hk.1.2.1, ⟨hk.1.2.2, hk.2⟩⟩⟩)), (by (with_reducible repeat (first | apply Kd.V_alloc | apply Kd.V_drewN | apply Kd.V_drew)); exact Kd.V_mono HO947.out (fun _ hk => ⟨hk.1.1, ⟨hk.1.2.1, ⟨hk.1.2.2, hk.2⟩⟩⟩)), (by (with_reducible repeat (first | apply Kd.V_alloc | apply Kd.V_drewN | apply Kd.V_drew)); exact Kd.V_mono HO953.out (fun _ hk => ⟨hk.1.1, ⟨hk.1.2.1, ⟨hk.1.2.2, hk.2⟩⟩⟩)), (by (with_reducible repeat (first | apply Kd.V_alloc | apply Kd.V_drewN | apply Kd.V_drew)); exact Kd.V_mono HO959.out (fun _ hk => ⟨hk.1.1, ⟨hk.1.2.1, ⟨hk.1.2.2, hk.2⟩⟩⟩)), (by (with_reducible repeat (first | apply Kd.V_alloc | apply Kd.V_drewN | apply Kd.V_drew)); exact Kd.V_mono HO964.out (fun _ hk => ⟨hk.1.1, ⟨hk.1.2.1, ⟨hk.1.2.2, hk.2⟩⟩⟩)), (kb BK943), (kb BK949), (kb BK955), (kb BK966), GW966.out, GE966.out, NB943_966.out, NB966_943.out, NB949_966.out, NB966_949.out, NB955_966.out, NB966_955.out, bes⟩)
   ·
    skip
    refine box_step ?hg (N := 10) ?hd (cs := #[.bool false, .slice none 0 0, .int .i64 0]) (t := 26) ?hr ?_; (case hd => rfl); (case hg => rfl); (case hr => first | (go_simp; done) | (go_simp; rfl))
    intro gb966 hg w34 hbox hb
    refine ax17 (Kd.V_below (Kd.V_elderB (kv HO941) gb966 (Nat.le_of_eq hg.symm)) hb) (Kd.V_below (Kd.V_elderB (kv HO947) gb966 (Nat.le_of_eq hg.symm)) hb) (Kd.V_below (Kd.V_elderB (kv HO953) gb966 (Nat.le_of_eq hg.symm)) hb) (Kd.V_below (Kd.V_elderB (kv HO959) gb966 (Nat.le_of_eq hg.symm)) hb) (bb BK943 hb) (bb BK949 hb) (bb BK955 hb) (below_step bes hb) hbox ((ge hg : w.heap.size ≤ gb966)) ((ge hg : w.heap.size ≤ gb966)) (nl hg BK943) (ng hg BK943) (nl hg BK949) (ng hg BK949) (nl hg BK955) (ng hg BK955) ?_
    clear HO941 HO947 HO953 HO959 BK943 BK949 BK955 HB
    intro HO941 HO947 HO953 HO959 BK943 BK949 BK955 HB BK966 GW966 GE966 NB943_966 NB966_943 NB949_966 NB966_949 NB955_966 NB966_955
    clear hb hbox hg
    obtain ⟨Ao35, co35, eo35⟩ := Kd.V_slice HO959.out
    (first | subst eo35 | (injection eo35 with f1_ f2_ f3_; have f4_ := f1_.symm; have f5_ := f3_.symm; clear f1_ f2_ f3_; subst f4_; subst f5_))
    refine hK.out _ _ ⟨(blk_cell BK943.out 0).trans rfl, (blk_cell BK943.out 1).trans rfl, (blk_cell BK943.out 2).trans rfl, (blk_cell BK949.out 0).trans rfl, (blk_cell BK949.out 1).trans rfl, (blk_cell BK949.out 2).trans rfl, (blk_cell BK955.out 0).trans rfl, (blk_cell BK955.out 1).trans rfl, (blk_cell BK955.out 2).trans rfl⟩ (fun hHeld => ?_)
    clear hK K
    refine norm_ (a' := ?_) ?_ ?_
    rotate_left
    ·
     show Act.put _ (some 10) _ = _
     simp only [Act.put, sa0, sa1, sa2, i64_w, i32_w]
     rfl
    refine one_ (i := 4) (N := some 24) #[true, true, true, true, true, true, false] rfl rfl (by kernel_rfl) (by decide) (fun K hK => ?_)
    refine goes_ Tryd.func13 (by kernel_rfl) rfl #[.agg #[.bool t956, .slice Ao35 t957.length co35, .int .i64 t960], .agg #[.bool t950, .slice Ao30 t951.length co30, .int .i64 t954]] (by rfl) rfl rfl ga ?_
    with_reducible refine (dyad_Num_Mul.calls k t956 _ _ t957 t960 t950 _ _ t951 t954 t961 t962 t965 _ ?side1 ?side2 ?side3 ?side4 ?side5 A10.out).mono ?_
    (case side1 => exact kvs HO959)
    (case side2 => exact (Kd.V_reads' HO959.out).2.1)
    (case side3 => exact kvs HO953)
    (case side4 => exact (Kd.V_reads' HO953.out).2.1)
    (case side5 => first | exact hT | exact TabW.drewN hT _ | exact TabW.drew hT | exact TabW.below hT bes)
    rintro e w36 ⟨v963, rfl, ho0, hb⟩
    refine ⟨_, rfl, ?_⟩
    refine ax10 (Kd.V_below (kv HO941) hb) (Kd.V_below (kv HO947) hb) (Kd.V_below (kv HO953) hb) (Kd.V_below (kv HO959) hb) (Kd.V_lower (Kd.V_mono (ok' := fun k_ => k_ ≠ gb943 ∧ k_ ≠ gb949 ∧ k_ ≠ gb955 ∧ k_ ≠ gb966) ho0 (fun k_ hk_ => ⟨(fb BK943 k_ hk_), (fb BK949 k_ hk_), (fb BK955 k_ hk_), (fb BK966 k_ hk_)⟩)) (below_size bes)) (bb BK943 hb) (bb BK949 hb) (bb BK955 hb) (bb BK966 hb) (below_step bes hb) ?_
    clear HO941 HO947 HO953 HO959 BK943 BK949 BK955 BK966 HB
    intro HO941 HO947 HO953 HO959 HO964 BK943 BK949 BK955 BK966 HB
    (try clear hb)
    (try clear hb2)
    (try clear hk)
    (try clear hi)
    (try clear ho0)
    refine hK.out _ _ ⟨(blk_cell BK943.out 0).trans rfl, (blk_cell BK943.out 1).trans rfl, (blk_cell BK943.out 2).trans rfl, (blk_cell BK949.out 0).trans rfl, (blk_cell BK949.out 1).trans rfl, (blk_cell BK949.out 2).trans rfl, (blk_cell BK955.out 0).trans rfl, (blk_cell BK955.out 1).trans rfl, (blk_cell BK955.out 2).trans rfl⟩ (fun hHeld => ?_)
    clear hK K
    refine norm_ (a' := ?_) ?_ ?_
    rotate_left
    ·
     show Act.put _ (some 24) _ = _
     simp only [Act.put, sa0, sa1, sa2, i64_w, i32_w]
     rfl
    exact norm_ (by simp only [putAll, Act.put, List.setIfInBounds_toArray, List.set_cons_zero, List.set_cons_succ]) (hCont (.slice Ao35 t957.length co35, v963, gb966) _ ⟨hHeld, (by (with_reducible repeat (first | apply Kd.V_alloc | apply Kd.V_drewN | apply Kd.V_drew)); exact Kd.V_mono HO941.out (fun _ hk => ⟨hk.1.1, ⟨hk.1.2.1, ⟨hk.1.2.2, hk.2⟩⟩⟩)), (by (with_reducible repeat (first | apply Kd.V_alloc | apply Kd.V_drewN | apply Kd.V_drew)); exact Kd.V_mono HO947.out (fun _ hk => ⟨hk.1.1, ⟨hk.1.2.1, ⟨hk.1.2.2, hk.2⟩⟩⟩)), (by (with_reducible repeat (first | apply Kd.V_alloc | apply Kd.V_drewN | apply Kd.V_drew)); exact Kd.V_mono HO953.out (fun _ hk => ⟨hk.1.1, ⟨hk.1.2.1, ⟨hk.1.2.2, hk.2⟩⟩⟩)), (by (with_reducible repeat (first | apply Kd.V_alloc | apply Kd.V_drewN | apply Kd.V_drew)); exact Kd.V_mono HO959.out (fun _ hk => ⟨hk.1.1, ⟨hk.1.2.1, ⟨hk.1.2.2, hk.2⟩⟩⟩)), (kv HO964), (kb BK943), (kb BK949), (kb BK955), (kb BK966), GW966.out, GE966.out, NB943_966.out, NB966_943.out, NB949_966.out, NB966_949.out, NB955_966.out, NB966_955.out, bes⟩)
  ·
   skip
   refine box_step ?hg (N := 10) ?hd (cs := #[.bool false, .slice none 0 0, .int .i64 0]) (t := 26) ?hr ?_; (case hd => rfl); (case hg => rfl); (case hr => first | (go_simp; done) | (go_simp; rfl))
   intro gb966 hg w33 hbox hb
   refine ax16 (Kd.V_below (Kd.V_elderB (kv HO941) gb966 (Nat.le_of_eq hg.symm)) hb) (Kd.V_below (Kd.V_elderB (kv HO947) gb966 (Nat.le_of_eq hg.symm)) hb) (Kd.V_below (Kd.V_elderB (kv HO953) gb966 (Nat.le_of_eq hg.symm)) hb) (bb BK943 hb) (bb BK949 hb) (bb BK955 hb) (below_step bes hb) hbox ((ge hg : w.heap.size ≤ gb966)) ((ge hg : w.heap.size ≤ gb966)) (nl hg BK943) (ng hg BK943) (nl hg BK949) (ng hg BK949) (nl hg BK955) (ng hg BK955) ?_
   clear HO941 HO947 HO953 BK943 BK949 BK955 HB
   intro HO941 HO947 HO953 BK943 BK949 BK955 HB BK966 GW966 GE966 NB943_966 NB966_943 NB949_966 NB966_949 NB955_966 NB966_955
   clear hb hbox hg
   refine hK.out _ _ ⟨(blk_cell BK943.out 0).trans rfl, (blk_cell BK943.out 1).trans rfl, (blk_cell BK943.out 2).trans rfl, (blk_cell BK949.out 0).trans rfl, (blk_cell BK949.out 1).trans rfl, (blk_cell BK949.out 2).trans rfl, (blk_cell BK955.out 0).trans rfl, (blk_cell BK955.out 1).trans rfl, (blk_cell BK955.out 2).trans rfl⟩ (fun hHeld => ?_)
   clear hK K
   refine norm_ (a' := ?_) ?_ ?_
   rotate_left
   ·
    show Act.put _ (some 10) _ = _
    simp only [Act.put, sa0, sa1, sa2, i64_w, i32_w]
    rfl
   refine one_ (i := 2) (N := some 22) #[true, true, true, true, false, true, false] rfl rfl (by kernel_rfl) (by decide) (fun K hK => ?_)
   refine goes_ Tryd.func11 (by kernel_rfl) rfl #[.agg #[.bool t938, .slice Ao19 t939.length co19, .int .i64 t942], .agg #[.bool t944, .slice Ao24 t945.length co24, .int .i64 t948]] (by rfl) rfl rfl ga ?_
   with_reducible refine (dyad_Num_Add.calls k t938 (fun k_ => ((k_ ≠ gb943 ∧ (k_ ≠ gb949 ∧ k_ ≠ gb955)) ∧ k_ ≠ gb966)) _ _ t939 t942 t944 (fun k_ => ((k_ ≠ gb943 ∧ (k_ ≠ gb949 ∧ k_ ≠ gb955)) ∧ k_ ≠ gb966)) _ _ t945 t948 t956 t957 t960 _ ?side1 ?side2 ?side3 A9.out).mono ?_
   (case side1 => exact HO941.out)
   (case side2 => exact HO947.out)
   (case side3 => first | exact hT | exact TabW.drewN hT _ | exact TabW.drew hT | exact TabW.below hT bes)
   rintro e w34 ⟨v958, rfl, ho0, hb⟩
   refine ⟨_, rfl, ?_⟩
   refine ax9 (Kd.V_below (kv HO941) hb) (Kd.V_below (kv HO947) hb) (Kd.V_below (kv HO953) hb) (Kd.V_lower (Kd.V_mono (ok' := fun k_ => k_ ≠ gb943 ∧ k_ ≠ gb949 ∧ k_ ≠ gb955 ∧ k_ ≠ gb966) ho0 (fun k_ hk_ => ⟨Or.elim hk_ (fun hs_ => Or.elim hs_ (fun hs_ => hs_.1.1) (fun hs_ => hs_.1.1)) (fun hn_ => (fb BK943 k_ hn_)), Or.elim hk_ (fun hs_ => Or.elim hs_ (fun hs_ => hs_.1.2.1) (fun hs_ => hs_.1.2.1)) (fun hn_ => (fb BK949 k_ hn_)), Or.elim hk_ (fun hs_ => Or.elim hs_ (fun hs_ => hs_.1.2.2) (fun hs_ => hs_.1.2.2)) (fun hn_ => (fb BK955 k_ hn_)), Or.elim hk_ (fun hs_ => Or.elim hs_ (fun hs_ => hs_.2) (fun hs_ => hs_.2)) (fun hn_ => (fb BK966 k_ hn_))⟩)) (below_size bes)) (bb BK943 hb) (bb BK949 hb) (bb BK955 hb) (bb BK966 hb) (below_step bes hb) ?_
   clear HO941 HO947 HO953 BK943 BK949 BK955 BK966 HB
   intro HO941 HO947 HO953 HO959 BK943 BK949 BK955 BK966 HB
   (try clear hb)
   (try clear hb2)
   (try clear hk)
   (try clear hi)
   (try clear ho0)
   obtain ⟨Ao35, co35, eo35⟩ := Kd.V_slice HO959.out
   (first | subst eo35 | (injection eo35 with f1_ f2_ f3_; have f4_ := f1_.symm; have f5_ := f3_.symm; clear f1_ f2_ f3_; subst f4_; subst f5_))
   refine hK.out _ _ ⟨(blk_cell BK943.out 0).trans rfl, (blk_cell BK943.out 1).trans rfl, (blk_cell BK943.out 2).trans rfl, (blk_cell BK949.out 0).trans rfl, (blk_cell BK949.out 1).trans rfl, (blk_cell BK949.out 2).trans rfl, (blk_cell BK955.out 0).trans rfl, (blk_cell BK955.out 1).trans rfl, (blk_cell BK955.out 2).trans rfl⟩ (fun hHeld => ?_)
   clear hK K
   refine norm_ (a' := ?_) ?_ ?_
   rotate_left
   ·
    show Act.put _ (some 22) _ = _
    simp only [Act.put, sa0, sa1, sa2, i64_w, i32_w]
    rfl
   refine one_ (i := 4) (N := some 24) #[true, true, true, true, true, true, false] rfl rfl (by kernel_rfl) (by decide) (fun K hK => ?_)
   refine goes_ Tryd.func13 (by kernel_rfl) rfl #[.agg #[.bool t956, .slice Ao35 t957.length co35, .int .i64 t960], .agg #[.bool t950, .slice Ao30 t951.length co30, .int .i64 t954]] (by rfl) rfl rfl ga ?_
   with_reducible refine (dyad_Num_Mul.calls k t956 _ _ t957 t960 t950 _ _ t951 t954 t961 t962 t965 _ ?side1 ?side2 ?side3 ?side4 ?side5 A10.out).mono ?_
   (case side1 => exact kvs HO959)
   (case side2 => exact (Kd.V_reads' HO959.out).2.1)
   (case side3 => exact kvs HO953)
   (case side4 => exact (Kd.V_reads' HO953.out).2.1)
   (case side5 => first | exact hT | exact TabW.drewN hT _ | exact TabW.drew hT | exact TabW.below hT bes)
   rintro e w36 ⟨v963, rfl, ho0, hb⟩
   refine ⟨_, rfl, ?_⟩
   refine ax10 (Kd.V_below (kv HO941) hb) (Kd.V_below (kv HO947) hb) (Kd.V_below (kv HO953) hb) (Kd.V_below (kv HO959) hb) (Kd.V_lower (Kd.V_mono (ok' := fun k_ => k_ ≠ gb943 ∧ k_ ≠ gb949 ∧ k_ ≠ gb955 ∧ k_ ≠ gb966) ho0 (fun k_ hk_ => ⟨(fb BK943 k_ hk_), (fb BK949 k_ hk_), (fb BK955 k_ hk_), (fb BK966 k_ hk_)⟩)) (below_size bes)) (bb BK943 hb) (bb BK949 hb) (bb BK955 hb) (bb BK966 hb) (below_step bes hb) ?_
   clear HO941 HO947 HO953 HO959 BK943 BK949 BK955 BK966 HB
   intro HO941 HO947 HO953 HO959 HO964 BK943 BK949 BK955 BK966 HB
   (try clear hb)
   (try clear hb2)
   (try clear hk)
   (try clear hi)
   (try clear ho0)
   refine hK.out _ _ ⟨(blk_cell BK943.out 0).trans rfl, (blk_cell BK943.out 1).trans rfl, (blk_cell BK943.out 2).trans rfl, (blk_cell BK949.out 0).trans rfl, (blk_cell BK949.out 1).trans rfl, (blk_cell BK949.out 2).trans rfl, (blk_cell BK955.out 0).trans rfl, (blk_cell BK955.out 1).trans rfl, (blk_cell BK955.out 2).trans rfl⟩ (fun hHeld => ?_)
   clear hK K
   refine norm_ (a' := ?_) ?_ ?_
   rotate_left
   ·
    show Act.put _ (some 24) _ = _
    simp only [Act.put, sa0, sa1, sa2, i64_w, i32_w]
    rfl
   exact norm_ (by simp only [putAll, Act.put, List.setIfInBounds_toArray, List.set_cons_zero, List.set_cons_succ]) (hCont (.slice Ao35 t957.length co35, v963, gb966) _ ⟨hHeld, (by (with_reducible repeat (first | apply Kd.V_alloc | apply Kd.V_drewN | apply Kd.V_drew)); exact Kd.V_mono HO941.out (fun _ hk => ⟨hk.1.1, ⟨hk.1.2.1, ⟨hk.1.2.2, hk.2⟩⟩⟩)), (by (with_reducible repeat (first | apply Kd.V_alloc | apply Kd.V_drewN | apply Kd.V_drew)); exact Kd.V_mono HO947.out (fun _ hk => ⟨hk.1.1, ⟨hk.1.2.1, ⟨hk.1.2.2, hk.2⟩⟩⟩)), (by (with_reducible repeat (first | apply Kd.V_alloc | apply Kd.V_drewN | apply Kd.V_drew)); exact Kd.V_mono HO953.out (fun _ hk => ⟨hk.1.1, ⟨hk.1.2.1, ⟨hk.1.2.2, hk.2⟩⟩⟩)), (kv HO959), (kv HO964), (kb BK943), (kb BK949), (kb BK955), (kb BK966), GW966.out, GE966.out, NB943_966.out, NB966_943.out, NB949_966.out, NB966_949.out, NB955_966.out, NB966_955.out, bes⟩)
 rintro ⟨v958, v963, gb966⟩ w37 ⟨hS_, h0_, h1_, h2_, h3_, h4_, h5_, h6_, h7_, h8_, h9_, h10_, h11_, h12_, h13_, h14_, h15_, h16_, h17_⟩
 have n0_ : Aside0 (Kd.V (Kd.int .u32) 56 w37 w.heap.size (fun k_ => k_ ≠ gb943 ∧ k_ ≠ gb949 ∧ k_ ≠ gb955 ∧ k_ ≠ gb966) (.slice Ao19 t939.length co19) t939) := ⟨h0_⟩
 have n1_ : Aside0 (Kd.V (Kd.int .u32) 56 w37 w.heap.size (fun k_ => k_ ≠ gb943 ∧ k_ ≠ gb949 ∧ k_ ≠ gb955 ∧ k_ ≠ gb966) (.slice Ao24 t945.length co24) t945) := ⟨h1_⟩
 have n2_ : Aside0 (Kd.V (Kd.int .u32) 56 w37 w.heap.size (fun k_ => k_ ≠ gb943 ∧ k_ ≠ gb949 ∧ k_ ≠ gb955 ∧ k_ ≠ gb966) (.slice Ao30 t951.length co30) t951) := ⟨h2_⟩
 have n3_ : Aside0 (Kd.V (Kd.int .u32) 56 w37 w.heap.size (fun k_ => k_ ≠ gb943 ∧ k_ ≠ gb949 ∧ k_ ≠ gb955 ∧ k_ ≠ gb966) v958 t957) := ⟨h3_⟩
 have n4_ : Aside0 (Kd.V (Kd.int .u32) 56 w37 w.heap.size (fun k_ => k_ ≠ gb943 ∧ k_ ≠ gb949 ∧ k_ ≠ gb955 ∧ k_ ≠ gb966) v963 t962) := ⟨h4_⟩
 have n5_ : Aside0 (w37.heap[gb943]? = some (.cells #[.bool t938, .slice Ao19 t939.length co19, .int .i64 t942] 26 (0, 0))) := ⟨h5_⟩
 have n6_ : Aside0 (w37.heap[gb949]? = some (.cells #[.bool t944, .slice Ao24 t945.length co24, .int .i64 t948] 26 (0, 0))) := ⟨h6_⟩
 have n7_ : Aside0 (w37.heap[gb955]? = some (.cells #[.bool t950, .slice Ao30 t951.length co30, .int .i64 t954] 26 (0, 0))) := ⟨h7_⟩
 have n8_ : Aside0 (w37.heap[gb966]? = some (.cells #[.bool false, .slice none 0 0, .int .i64 0] 26 (0, 0))) := ⟨h8_⟩
 have n9_ : Aside0 (w.heap.size ≤ gb966) := ⟨h9_⟩
 have n10_ : Aside0 (w.heap.size ≤ gb966) := ⟨h10_⟩
 have n11_ : Aside0 (gb943 ≠ gb966) := ⟨h11_⟩
 have n12_ : Aside0 (gb966 ≠ gb943) := ⟨h12_⟩
 have n13_ : Aside0 (gb949 ≠ gb966) := ⟨h13_⟩
 have n14_ : Aside0 (gb966 ≠ gb949) := ⟨h14_⟩
 have n15_ : Aside0 (gb955 ≠ gb966) := ⟨h15_⟩
 have n16_ : Aside0 (gb966 ≠ gb955) := ⟨h16_⟩
 have n17_ : Aside0 (Below w.heap.size w w37) := ⟨h17_⟩
 clear HO941 HO947 HO953 BK943 BK949 BK955 HB h0_ h1_ h2_ h3_ h4_ h5_ h6_ h7_ h8_ h9_ h10_ h11_ h12_ h13_ h14_ h15_ h16_ h17_
 have HO941 := n0_
 have HO947 := n1_
 have HO953 := n2_
 have HO959 := n3_
 have HO964 := n4_
 have BK943 := n5_
 have BK949 := n6_
 have BK955 := n7_
 have BK966 := n8_
 have GW966 := n9_
 have GE966 := n10_
 have NB943_966 := n11_
 have NB966_943 := n12_
 have NB949_966 := n13_
 have NB966_949 := n14_
 have NB955_966 := n15_
 have NB966_955 := n16_
 have HB := n17_
 clear n0_ n1_ n2_ n3_ n4_ n5_ n6_ n7_ n8_ n9_ n10_ n11_ n12_ n13_ n14_ n15_ n16_ n17_
 have hHeld : w37.cell? ⟨gb943, 0, none⟩ = some (.bool t938) ∧ w37.cell? ⟨gb943, 1, none⟩ = some (.slice Ao19 t939.length co19) ∧ w37.cell? ⟨gb943, 2, none⟩ = some (.int .i64 t942) ∧ w37.cell? ⟨gb949, 0, none⟩ = some (.bool t944) ∧ w37.cell? ⟨gb949, 1, none⟩ = some (.slice Ao24 t945.length co24) ∧ w37.cell? ⟨gb949, 2, none⟩ = some (.int .i64 t948) ∧ w37.cell? ⟨gb955, 0, none⟩ = some (.bool t950) ∧ w37.cell? ⟨gb955, 1, none⟩ = some (.slice Ao30 t951.length co30) ∧ w37.cell? ⟨gb955, 2, none⟩ = some (.int .i64 t954) := hS_
 obtain ⟨Ao39, co39, eo39⟩ := Kd.V_slice HO964.out
 (first | subst eo39 | (injection eo39 with f1_ f2_ f3_; have f4_ := f1_.symm; have f5_ := f3_.symm; clear f1_ f2_ f3_; subst f4_; subst f5_))
 refine norm_ (a' := ?_) ?_ ?_
 rotate_left
 ·
  simp only [putAll, Act.put, List.setIfInBounds_toArray, List.set_cons_zero, List.set_cons_succ]
  rfl
 refine one_ (i := 6) (N := none) #[true, true, true, true, true, true, true] rfl rfl (by kernel_rfl) (by decide) (fun K hK => ?_)
 have hs38 : w37.cell? ⟨gb966, 0, none⟩ = some (.bool false) := (blk_cell BK966.out 0).trans rfl
 have hfs38 := blk_frozen BK966.out 0
 have hns38_0 := NB943_966.out
 have hns38_1 := NB949_966.out
 have hns38_2 := NB955_966.out
 have hms38_0 := NB966_943.out
 have hms38_1 := NB966_949.out
 have hms38_2 := NB966_955.out
 have hs40 : w37.cell? ⟨gb966, 1, none⟩ = some (.slice none 0 0) := (blk_cell BK966.out 1).trans rfl
 have hfs40 := blk_frozen BK966.out 1
 have hns40_0 := NB943_966.out
 have hns40_1 := NB949_966.out
 have hns40_2 := NB955_966.out
 have hms40_0 := NB966_943.out
 have hms40_1 := NB966_949.out
 have hms40_2 := NB966_955.out
 have hs41 : w37.cell? ⟨gb966, 2, none⟩ = some (.int .i64 0) := (blk_cell BK966.out 2).trans rfl
 have hfs41 := blk_frozen BK966.out 2
 have hns41_0 := NB943_966.out
 have hns41_1 := NB949_966.out
 have hns41_2 := NB955_966.out
 have hms41_0 := NB966_943.out
 have hms41_1 := NB966_949.out
 have hms41_2 := NB966_955.out
 refine skip_ (w1 := ?_) (by rfl) rfl ?_ ?_
 rotate_left
 ·
  go_simp
  rfl
 refine hK.out _ _ ⟨((cell_far (p := ⟨gb966, _, none⟩) NB943_966.out _).trans (((cell_far (p := ⟨gb966, _, none⟩) NB943_966.out _).trans (((cell_far (p := ⟨gb966, _, none⟩) NB943_966.out _).trans (hHeld.1)))))), ((cell_far (p := ⟨gb966, _, none⟩) NB943_966.out _).trans (((cell_far (p := ⟨gb966, _, none⟩) NB943_966.out _).trans (((cell_far (p := ⟨gb966, _, none⟩) NB943_966.out _).trans (hHeld.2.1)))))), ((cell_far (p := ⟨gb966, _, none⟩) NB943_966.out _).trans (((cell_far (p := ⟨gb966, _, none⟩) NB943_966.out _).trans (((cell_far (p := ⟨gb966, _, none⟩) NB943_966.out _).trans (hHeld.2.2.1)))))), ((cell_far (p := ⟨gb966, _, none⟩) NB949_966.out _).trans (((cell_far (p := ⟨gb966, _, none⟩) NB949_966.out _).trans (((cell_far (p := ⟨gb966, _, none⟩) NB949_966.out _).trans (hHeld.2.2.2.1)))))), ((cell_far (p := ⟨gb966, _, none⟩) NB949_966.out _).trans (((cell_far (p := ⟨gb966, _, none⟩) NB949_966.out _).trans (((cell_far (p := ⟨gb966, _, none⟩) NB949_966.out _).trans (hHeld.2.2.2.2.1)))))), ((cell_far (p := ⟨gb966, _, none⟩) NB949_966.out _).trans (((cell_far (p := ⟨gb966, _, none⟩) NB949_966.out _).trans (((cell_far (p := ⟨gb966, _, none⟩) NB949_966.out _).trans (hHeld.2.2.2.2.2.1)))))), ((cell_far (p := ⟨gb966, _, none⟩) NB955_966.out _).trans (((cell_far (p := ⟨gb966, _, none⟩) NB955_966.out _).trans (((cell_far (p := ⟨gb966, _, none⟩) NB955_966.out _).trans (hHeld.2.2.2.2.2.2.1)))))), ((cell_far (p := ⟨gb966, _, none⟩) NB955_966.out _).trans (((cell_far (p := ⟨gb966, _, none⟩) NB955_966.out _).trans (((cell_far (p := ⟨gb966, _, none⟩) NB955_966.out _).trans (hHeld.2.2.2.2.2.2.2.1)))))), ((cell_far (p := ⟨gb966, _, none⟩) NB955_966.out _).trans (((cell_far (p := ⟨gb966, _, none⟩) NB955_966.out _).trans (((cell_far (p := ⟨gb966, _, none⟩) NB955_966.out _).trans (hHeld.2.2.2.2.2.2.2.2))))))⟩ (fun hHeld => ?_)
 clear hK K
 refine done_ (by kernel_rfl) ?_
 try go_wp2
 have n0_ : Aside0 (Kd.V (Kd.int .u32) 56 (((w37.setCell ⟨gb966, 0, none⟩ (.bool t961)).setCell ⟨gb966, 1, none⟩ (.slice Ao39 t962.length co39)).setCell ⟨gb966, 2, none⟩ (.int .i64 t965)) w.heap.size (fun k_ => k_ ≠ gb943 ∧ k_ ≠ gb949 ∧ k_ ≠ gb955 ∧ k_ ≠ gb966) (.slice Ao19 t939.length co19) t939) := ⟨by (with_reducible repeat (first | apply Kd.V_alloc | apply Kd.V_drewN | apply Kd.V_drew)); exact Kd.V_mono (Kd.V_far (p := ⟨gb966, 2, none⟩) (Kd.V_far (p := ⟨gb966, 1, none⟩) (Kd.V_far (p := ⟨gb966, 0, none⟩) (Kd.V_mono HO941.out (fun k_ hk => (⟨hk, hk.2.2.2⟩ : _ ∧ k_ ≠ gb966))) (fun _ hk => hk.2) (.bool t961)) (fun _ hk => hk.2) (.slice Ao39 t962.length co39)) (fun _ hk => hk.2) (.int .i64 t965)) (fun _ hk => ⟨hk.1.1, ⟨hk.1.2.1, ⟨hk.1.2.2.1, hk.1.2.2.2⟩⟩⟩)⟩
 have n1_ : Aside0 (Kd.V (Kd.int .u32) 56 (((w37.setCell ⟨gb966, 0, none⟩ (.bool t961)).setCell ⟨gb966, 1, none⟩ (.slice Ao39 t962.length co39)).setCell ⟨gb966, 2, none⟩ (.int .i64 t965)) w.heap.size (fun k_ => k_ ≠ gb943 ∧ k_ ≠ gb949 ∧ k_ ≠ gb955 ∧ k_ ≠ gb966) (.slice Ao24 t945.length co24) t945) := ⟨by (with_reducible repeat (first | apply Kd.V_alloc | apply Kd.V_drewN | apply Kd.V_drew)); exact Kd.V_mono (Kd.V_far (p := ⟨gb966, 2, none⟩) (Kd.V_far (p := ⟨gb966, 1, none⟩) (Kd.V_far (p := ⟨gb966, 0, none⟩) (Kd.V_mono HO947.out (fun k_ hk => (⟨hk, hk.2.2.2⟩ : _ ∧ k_ ≠ gb966))) (fun _ hk => hk.2) (.bool t961)) (fun _ hk => hk.2) (.slice Ao39 t962.length co39)) (fun _ hk => hk.2) (.int .i64 t965)) (fun _ hk => ⟨hk.1.1, ⟨hk.1.2.1, ⟨hk.1.2.2.1, hk.1.2.2.2⟩⟩⟩)⟩
 have n2_ : Aside0 (Kd.V (Kd.int .u32) 56 (((w37.setCell ⟨gb966, 0, none⟩ (.bool t961)).setCell ⟨gb966, 1, none⟩ (.slice Ao39 t962.length co39)).setCell ⟨gb966, 2, none⟩ (.int .i64 t965)) w.heap.size (fun k_ => k_ ≠ gb943 ∧ k_ ≠ gb949 ∧ k_ ≠ gb955 ∧ k_ ≠ gb966) (.slice Ao30 t951.length co30) t951) := ⟨by (with_reducible repeat (first | apply Kd.V_alloc | apply Kd.V_drewN | apply Kd.V_drew)); exact Kd.V_mono (Kd.V_far (p := ⟨gb966, 2, none⟩) (Kd.V_far (p := ⟨gb966, 1, none⟩) (Kd.V_far (p := ⟨gb966, 0, none⟩) (Kd.V_mono HO953.out (fun k_ hk => (⟨hk, hk.2.2.2⟩ : _ ∧ k_ ≠ gb966))) (fun _ hk => hk.2) (.bool t961)) (fun _ hk => hk.2) (.slice Ao39 t962.length co39)) (fun _ hk => hk.2) (.int .i64 t965)) (fun _ hk => ⟨hk.1.1, ⟨hk.1.2.1, ⟨hk.1.2.2.1, hk.1.2.2.2⟩⟩⟩)⟩
 have n3_ : Aside0 (Kd.V (Kd.int .u32) 56 (((w37.setCell ⟨gb966, 0, none⟩ (.bool t961)).setCell ⟨gb966, 1, none⟩ (.slice Ao39 t962.length co39)).setCell ⟨gb966, 2, none⟩ (.int .i64 t965)) w.heap.size (fun k_ => k_ ≠ gb943 ∧ k_ ≠ gb949 ∧ k_ ≠ gb955 ∧ k_ ≠ gb966) v958 t957) := ⟨by (with_reducible repeat (first | apply Kd.V_alloc | apply Kd.V_drewN | apply Kd.V_drew)); exact Kd.V_mono (Kd.V_far (p := ⟨gb966, 2, none⟩) (Kd.V_far (p := ⟨gb966, 1, none⟩) (Kd.V_far (p := ⟨gb966, 0, none⟩) (Kd.V_mono HO959.out (fun k_ hk => (⟨hk, hk.2.2.2⟩ : _ ∧ k_ ≠ gb966))) (fun _ hk => hk.2) (.bool t961)) (fun _ hk => hk.2) (.slice Ao39 t962.length co39)) (fun _ hk => hk.2) (.int .i64 t965)) (fun _ hk => ⟨hk.1.1, ⟨hk.1.2.1, ⟨hk.1.2.2.1, hk.1.2.2.2⟩⟩⟩)⟩
 have n4_ : Aside0 (Kd.V (Kd.int .u32) 56 (((w37.setCell ⟨gb966, 0, none⟩ (.bool t961)).setCell ⟨gb966, 1, none⟩ (.slice Ao39 t962.length co39)).setCell ⟨gb966, 2, none⟩ (.int .i64 t965)) w.heap.size (fun k_ => k_ ≠ gb943 ∧ k_ ≠ gb949 ∧ k_ ≠ gb955 ∧ k_ ≠ gb966) (.slice Ao39 t962.length co39) t962) := ⟨by (with_reducible repeat (first | apply Kd.V_alloc | apply Kd.V_drewN | apply Kd.V_drew)); exact Kd.V_mono (Kd.V_far (p := ⟨gb966, 2, none⟩) (Kd.V_far (p := ⟨gb966, 1, none⟩) (Kd.V_far (p := ⟨gb966, 0, none⟩) (Kd.V_mono HO964.out (fun k_ hk => (⟨hk, hk.2.2.2⟩ : _ ∧ k_ ≠ gb966))) (fun _ hk => hk.2) (.bool t961)) (fun _ hk => hk.2) (.slice Ao39 t962.length co39)) (fun _ hk => hk.2) (.int .i64 t965)) (fun _ hk => ⟨hk.1.1, ⟨hk.1.2.1, ⟨hk.1.2.2.1, hk.1.2.2.2⟩⟩⟩)⟩
 have n5_ : Aside0 ((((w37.setCell ⟨gb966, 0, none⟩ (.bool t961)).setCell ⟨gb966, 1, none⟩ (.slice Ao39 t962.length co39)).setCell ⟨gb966, 2, none⟩ (.int .i64 t965)).heap[gb943]? = some (.cells #[.bool t938, .slice Ao19 t939.length co19, .int .i64 t942] 26 (0, 0))) := ⟨by (with_reducible repeat (first | refine blk_drewN ?_ _ | refine blk_drew ?_ | refine blk_alloc ?_ _)); refine blk_far ?_ NB943_966.out _; (with_reducible repeat (first | refine blk_drewN ?_ _ | refine blk_drew ?_ | refine blk_alloc ?_ _)); refine blk_far ?_ NB943_966.out _; (with_reducible repeat (first | refine blk_drewN ?_ _ | refine blk_drew ?_ | refine blk_alloc ?_ _)); refine blk_far ?_ NB943_966.out _; (with_reducible repeat (first | refine blk_drewN ?_ _ | refine blk_drew ?_ | refine blk_alloc ?_ _)); exact BK943.out⟩
 have n6_ : Aside0 ((((w37.setCell ⟨gb966, 0, none⟩ (.bool t961)).setCell ⟨gb966, 1, none⟩ (.slice Ao39 t962.length co39)).setCell ⟨gb966, 2, none⟩ (.int .i64 t965)).heap[gb949]? = some (.cells #[.bool t944, .slice Ao24 t945.length co24, .int .i64 t948] 26 (0, 0))) := ⟨by (with_reducible repeat (first | refine blk_drewN ?_ _ | refine blk_drew ?_ | refine blk_alloc ?_ _)); refine blk_far ?_ NB949_966.out _; (with_reducible repeat (first | refine blk_drewN ?_ _ | refine blk_drew ?_ | refine blk_alloc ?_ _)); refine blk_far ?_ NB949_966.out _; (with_reducible repeat (first | refine blk_drewN ?_ _ | refine blk_drew ?_ | refine blk_alloc ?_ _)); refine blk_far ?_ NB949_966.out _; (with_reducible repeat (first | refine blk_drewN ?_ _ | refine blk_drew ?_ | refine blk_alloc ?_ _)); exact BK949.out⟩
 have n7_ : Aside0 ((((w37.setCell ⟨gb966, 0, none⟩ (.bool t961)).setCell ⟨gb966, 1, none⟩ (.slice Ao39 t962.length co39)).setCell ⟨gb966, 2, none⟩ (.int .i64 t965)).heap[gb955]? = some (.cells #[.bool t950, .slice Ao30 t951.length co30, .int .i64 t954] 26 (0, 0))) := ⟨by (with_reducible repeat (first | refine blk_drewN ?_ _ | refine blk_drew ?_ | refine blk_alloc ?_ _)); refine blk_far ?_ NB955_966.out _; (with_reducible repeat (first | refine blk_drewN ?_ _ | refine blk_drew ?_ | refine blk_alloc ?_ _)); refine blk_far ?_ NB955_966.out _; (with_reducible repeat (first | refine blk_drewN ?_ _ | refine blk_drew ?_ | refine blk_alloc ?_ _)); refine blk_far ?_ NB955_966.out _; (with_reducible repeat (first | refine blk_drewN ?_ _ | refine blk_drew ?_ | refine blk_alloc ?_ _)); exact BK955.out⟩
 have n8_ : Aside0 ((((w37.setCell ⟨gb966, 0, none⟩ (.bool t961)).setCell ⟨gb966, 1, none⟩ (.slice Ao39 t962.length co39)).setCell ⟨gb966, 2, none⟩ (.int .i64 t965)).heap[gb966]? = some (.cells #[.bool t961, .slice Ao39 t962.length co39, .int .i64 t965] 26 (0, 0))) := ⟨by (with_reducible repeat (first | refine blk_drewN ?_ _ | refine blk_drew ?_ | refine blk_alloc ?_ _)); refine blk_put (cs := #[.bool t961, .slice Ao39 t962.length co39, .int .i64 0]) ?_ 2 _ rfl; (with_reducible repeat (first | refine blk_drewN ?_ _ | refine blk_drew ?_ | refine blk_alloc ?_ _)); refine blk_put (cs := #[.bool t961, .slice none 0 0, .int .i64 0]) ?_ 1 _ rfl; (with_reducible repeat (first | refine blk_drewN ?_ _ | refine blk_drew ?_ | refine blk_alloc ?_ _)); refine blk_put (cs := #[.bool false, .slice none 0 0, .int .i64 0]) ?_ 0 _ rfl; (with_reducible repeat (first | refine blk_drewN ?_ _ | refine blk_drew ?_ | refine blk_alloc ?_ _)); exact BK966.out⟩
 have n9_ : Aside0 (Below w.heap.size w (((w37.setCell ⟨gb966, 0, none⟩ (.bool t961)).setCell ⟨gb966, 1, none⟩ (.slice Ao39 t962.length co39)).setCell ⟨gb966, 2, none⟩ (.int .i64 t965))) := ⟨bes⟩
 (try clear HO941)
 (try clear HO947)
 (try clear HO953)
 (try clear HO959)
 (try clear HO964)
 (try clear BK943)
 (try clear BK949)
 (try clear BK955)
 (try clear BK966)
 (try clear HB)
 generalize (((w37.setCell ⟨gb966, 0, none⟩ (.bool t961)).setCell ⟨gb966, 1, none⟩ (.slice Ao39 t962.length co39)).setCell ⟨gb966, 2, none⟩ (.int .i64 t965)) = w42 at n0_ n1_ n2_ n3_ n4_ n5_ n6_ n7_ n8_ n9_ ⊢
 have HO941 := n0_
 have HO947 := n1_
 have HO953 := n2_
 have HO959 := n3_
 have HO964 := n4_
 have BK943 := n5_
 have BK949 := n6_
 have BK955 := n7_
 have BK966 := n8_
 have HB := n9_
 clear n0_ n1_ n2_ n3_ n4_ n5_ n6_ n7_ n8_ n9_
 refine ax10 (Kd.V_drew HO941.out) (Kd.V_drew HO947.out) (Kd.V_drew HO953.out) (Kd.V_drew HO959.out) (Kd.V_drew HO964.out) (blk_drew BK943.out) (blk_drew BK949.out) (blk_drew BK955.out) (blk_drew BK966.out) (below_drew1 HB.out) ?_
 clear HO941 HO947 HO953 HO959 HO964 BK943 BK949 BK955 BK966 HB
 intro HO941 HO947 HO953 HO959 HO964 BK943 BK949 BK955 BK966 HB
 refine start_ (n := 9) (S := fun w' => w'.cell? ⟨gb955, 0, none⟩ = some (.bool t950) ∧ w'.cell? ⟨gb955, 1, none⟩ = some (.slice Ao30 t951.length co30) ∧ w'.cell? ⟨gb955, 2, none⟩ = some (.int .i64 t954) ∧ w'.cell? ⟨gb943, 0, none⟩ = some (.bool t938) ∧ w'.cell? ⟨gb943, 1, none⟩ = some (.slice Ao19 t939.length co19) ∧ w'.cell? ⟨gb943, 2, none⟩ = some (.int .i64 t942) ∧ w'.cell? ⟨gb949, 0, none⟩ = some (.bool t944) ∧ w'.cell? ⟨gb949, 1, none⟩ = some (.slice Ao24 t945.length co24) ∧ w'.cell? ⟨gb949, 2, none⟩ = some (.int .i64 t948)) (ds := []) #[false, false, false, false, false, false, false, false, false] (by kernel_rfl) rfl rfl ⟨(blk_cell BK955.out 0).trans rfl, (blk_cell BK955.out 1).trans rfl, (blk_cell BK955.out 2).trans rfl, (blk_cell BK943.out 0).trans rfl, (blk_cell BK943.out 1).trans rfl, (blk_cell BK943.out 2).trans rfl, (blk_cell BK949.out 0).trans rfl, (blk_cell BK949.out 1).trans rfl, (blk_cell BK949.out 2).trans rfl⟩ (fun hHeld => ?_); refine with_tabW gimballaw07_DyadLaws.tab7 gimballaw07_DyadLaws.bits7 (fun HT_ HW_ => ?_)
 generalize w42.drew = w43 at HO941 HO947 HO953 HO959 HO964 BK943 BK949 BK955 BK966 HB hHeld ⊢
 refine take_ (i := 0) (N := some 25) (v := ?_) (a' := ?_) #[true, false, false, false, false, false, false, false, false] rfl rfl (take_ofW HT_.out HW_.out (by kernel_rfl)) (fun _ _ _ h => h) (Or.inl ⟨by rfl, ?_⟩) hHeld ?_ ?_
 rotate_left
 ·
  rintro w' ⟨s0, s1, s2, s3, s4, s5, s6, s7, s8⟩
  go_simp
  with_reducible rfl
 rotate_left
 ·
  simp only [Act.put, sa0, sa1, sa2, i64_w, i32_w]
  rfl
 refine take_ (i := 1) (N := some 26) (v := ?_) (a' := ?_) #[true, true, false, false, false, false, false, false, false] rfl rfl (take_ofW HT_.out HW_.out (by kernel_rfl)) (fun _ _ _ h => h) (Or.inl ⟨by rfl, ?_⟩) hHeld ?_ ?_
 rotate_left
 ·
  rintro w' ⟨s0, s1, s2, s3, s4, s5, s6, s7, s8⟩
  go_simp
  with_reducible rfl
 rotate_left
 ·
  simp only [Act.put, sa0, sa1, sa2, i64_w, i32_w]
  rfl
 refine take_ (i := 3) (N := some 28) (v := ?_) (a' := ?_) #[true, true, false, true, false, false, false, false, false] rfl rfl (take_ofW HT_.out HW_.out (by kernel_rfl)) (fun _ _ _ h => h) (Or.inl ⟨by rfl, ?_⟩) hHeld ?_ ?_
 rotate_left
 ·
  rintro w' ⟨s0, s1, s2, s3, s4, s5, s6, s7, s8⟩
  go_simp
  with_reducible rfl
 rotate_left
 ·
  simp only [Act.put, sa0, sa1, sa2, i64_w, i32_w]
  rfl
 refine take_ (i := 4) (N := some 29) (v := ?_) (a' := ?_) #[true, true, false, true, true, false, false, false, false] rfl rfl (take_ofW HT_.out HW_.out (by kernel_rfl)) (fun _ _ _ h => h) (Or.inl ⟨by rfl, ?_⟩) hHeld ?_ ?_
 rotate_left
 ·
  rintro w' ⟨s0, s1, s2, s3, s4, s5, s6, s7, s8⟩
  go_simp
  with_reducible rfl
 rotate_left
 ·
  simp only [Act.put, sa0, sa1, sa2, i64_w, i32_w]
  rfl
 refine join_ (σ := Value × Value × Value × Nat) 1 #[true, true, true, true, true, true, true, true, false] (fun s_ => [(27, .agg #[.bool t967, s_.1, .int .i64 t971]), (30, .agg #[.bool t972, s_.2.1, .int .i64 t976]), (31, .agg #[.bool t977, s_.2.2.1, .int .i64 t981]), (11, .pointer (some ⟨s_.2.2.2, 0, none⟩))]) (fun s_ w' => (w'.cell? ⟨gb955, 0, none⟩ = some (.bool t950) ∧ w'.cell? ⟨gb955, 1, none⟩ = some (.slice Ao30 t951.length co30) ∧ w'.cell? ⟨gb955, 2, none⟩ = some (.int .i64 t954) ∧ w'.cell? ⟨gb943, 0, none⟩ = some (.bool t938) ∧ w'.cell? ⟨gb943, 1, none⟩ = some (.slice Ao19 t939.length co19) ∧ w'.cell? ⟨gb943, 2, none⟩ = some (.int .i64 t942) ∧ w'.cell? ⟨gb949, 0, none⟩ = some (.bool t944) ∧ w'.cell? ⟨gb949, 1, none⟩ = some (.slice Ao24 t945.length co24) ∧ w'.cell? ⟨gb949, 2, none⟩ = some (.int .i64 t948)) ∧ (Kd.V (Kd.int .u32) 56 w' w.heap.size (fun k_ => k_ ≠ gb943 ∧ k_ ≠ gb949 ∧ k_ ≠ gb955 ∧ k_ ≠ gb966 ∧ k_ ≠ s_.2.2.2) (.slice Ao19 t939.length co19) t939) ∧ (Kd.V (Kd.int .u32) 56 w' w.heap.size (fun k_ => k_ ≠ gb943 ∧ k_ ≠ gb949 ∧ k_ ≠ gb955 ∧ k_ ≠ gb966 ∧ k_ ≠ s_.2.2.2) (.slice Ao24 t945.length co24) t945) ∧ (Kd.V (Kd.int .u32) 56 w' w.heap.size (fun k_ => k_ ≠ gb943 ∧ k_ ≠ gb949 ∧ k_ ≠ gb955 ∧ k_ ≠ gb966 ∧ k_ ≠ s_.2.2.2) (.slice Ao30 t951.length co30) t951) ∧ (Kd.V (Kd.int .u32) 56 w' w.heap.size (fun k_ => k_ ≠ gb943 ∧ k_ ≠ gb949 ∧ k_ ≠ gb955 ∧ k_ ≠ gb966 ∧ k_ ≠ s_.2.2.2) v958 t957) ∧ (Kd.V (Kd.int .u32) 56 w' w.heap.size (fun k_ => k_ ≠ gb943 ∧ k_ ≠ gb949 ∧ k_ ≠ gb955 ∧ k_ ≠ gb966 ∧ k_ ≠ s_.2.2.2) (.slice Ao39 t962.length co39) t962) ∧ (Kd.V (Kd.int .u32) 56 w' w.heap.size (fun k_ => k_ ≠ gb943 ∧ k_ ≠ gb949 ∧ k_ ≠ gb955 ∧ k_ ≠ gb966 ∧ k_ ≠ s_.2.2.2) s_.1 t968) ∧ (Kd.V (Kd.int .u32) 56 w' w.heap.size (fun k_ => k_ ≠ gb943 ∧ k_ ≠ gb949 ∧ k_ ≠ gb955 ∧ k_ ≠ gb966 ∧ k_ ≠ s_.2.2.2) s_.2.1 t973) ∧ (Kd.V (Kd.int .u32) 56 w' w.heap.size (fun k_ => k_ ≠ gb943 ∧ k_ ≠ gb949 ∧ k_ ≠ gb955 ∧ k_ ≠ gb966 ∧ k_ ≠ s_.2.2.2) s_.2.2.1 t978) ∧ (w'.heap[gb943]? = some (.cells #[.bool t938, .slice Ao19 t939.length co19, .int .i64 t942] 26 (0, 0))) ∧ (w'.heap[gb949]? = some (.cells #[.bool t944, .slice Ao24 t945.length co24, .int .i64 t948] 26 (0, 0))) ∧ (w'.heap[gb955]? = some (.cells #[.bool t950, .slice Ao30 t951.length co30, .int .i64 t954] 26 (0, 0))) ∧ (w'.heap[gb966]? = some (.cells #[.bool t961, .slice Ao39 t962.length co39, .int .i64 t965] 26 (0, 0))) ∧ (w'.heap[s_.2.2.2]? = some (.cells #[.bool false, .slice none 0 0, .int .i64 0] 26 (0, 0))) ∧ (w.heap.size ≤ s_.2.2.2) ∧ (w.heap.size ≤ s_.2.2.2) ∧ (gb943 ≠ s_.2.2.2) ∧ (s_.2.2.2 ≠ gb943) ∧ (gb949 ≠ s_.2.2.2) ∧ (s_.2.2.2 ≠ gb949) ∧ (gb955 ≠ s_.2.2.2) ∧ (s_.2.2.2 ≠ gb955) ∧ (gb966 ≠ s_.2.2.2) ∧ (s_.2.2.2 ≠ gb966) ∧ (Below w.heap.size w w')) ?_ ?_
 rotate_left
 ·
  intro hCont
  refine two_ (i := 2) (j := 7) (Ni := some 27) (Nj := some 11) #[true, true, true, true, true, false, false, false, false] #[true, true, false, true, true, false, false, true, false] rfl rfl rfl rfl (two_of HT_.out (by kernel_rfl)) (by decide) (by decide) (fun K hK => ?_) (fun K hK => ?_)
  ·
   skip
   refine goes_ Tryd.func13 (by kernel_rfl) rfl #[.agg #[.bool t950, .slice Ao30 t951.length co30, .int .i64 t954], .agg #[.bool t938, .slice Ao19 t939.length co19, .int .i64 t942]] (by rfl) rfl rfl ga ?_
   with_reducible refine (dyad_Num_Mul.calls k t950 _ _ t951 t954 t938 _ _ t939 t942 t967 t968 t971 _ ?side1 ?side2 ?side3 ?side4 ?side5 A11.out).mono ?_
   (case side1 => exact kvs HO953)
   (case side2 => exact (Kd.V_reads' HO953.out).2.1)
   (case side3 => exact kvs HO941)
   (case side4 => exact (Kd.V_reads' HO941.out).2.1)
   (case side5 => first | exact hT | exact TabW.drewN hT _ | exact TabW.drew hT | exact TabW.below hT bes)
   rintro e w44 ⟨v969, rfl, ho0, hb⟩
   refine ⟨_, rfl, ?_⟩
   refine ax11 (Kd.V_below (kv HO941) hb) (Kd.V_below (kv HO947) hb) (Kd.V_below (kv HO953) hb) (Kd.V_below (kv HO959) hb) (Kd.V_below (kv HO964) hb) (Kd.V_lower (Kd.V_mono (ok' := fun k_ => k_ ≠ gb943 ∧ k_ ≠ gb949 ∧ k_ ≠ gb955 ∧ k_ ≠ gb966) ho0 (fun k_ hk_ => ⟨(fb BK943 k_ hk_), (fb BK949 k_ hk_), (fb BK955 k_ hk_), (fb BK966 k_ hk_)⟩)) (below_size bes)) (bb BK943 hb) (bb BK949 hb) (bb BK955 hb) (bb BK966 hb) (below_step bes hb) ?_
   clear HO941 HO947 HO953 HO959 HO964 BK943 BK949 BK955 BK966 HB
   intro HO941 HO947 HO953 HO959 HO964 HO970 BK943 BK949 BK955 BK966 HB
   (try clear hb)
   (try clear hb2)
   (try clear hk)
   (try clear hi)
   (try clear ho0)
   refine hK.out _ _ ⟨(blk_cell BK955.out 0).trans rfl, (blk_cell BK955.out 1).trans rfl, (blk_cell BK955.out 2).trans rfl, (blk_cell BK943.out 0).trans rfl, (blk_cell BK943.out 1).trans rfl, (blk_cell BK943.out 2).trans rfl, (blk_cell BK949.out 0).trans rfl, (blk_cell BK949.out 1).trans rfl, (blk_cell BK949.out 2).trans rfl⟩ (fun hHeld => ?_)
   clear hK K
   refine norm_ (a' := ?_) ?_ ?_
   rotate_left
   ·
    show Act.put _ (some 27) _ = _
    simp only [Act.put, sa0, sa1, sa2, i64_w, i32_w]
    rfl
   refine two_ (i := 5) (j := 7) (Ni := some 30) (Nj := some 11) #[true, true, true, true, true, true, false, false, false] #[true, true, true, true, true, false, false, true, false] rfl rfl rfl rfl (two_of HT_.out (by kernel_rfl)) (by decide) (by decide) (fun K hK => ?_) (fun K hK => ?_)
   ·
    skip
    refine goes_ Tryd.func13 (by kernel_rfl) rfl #[.agg #[.bool t944, .slice Ao24 t945.length co24, .int .i64 t948], .agg #[.bool t950, .slice Ao30 t951.length co30, .int .i64 t954]] (by rfl) rfl rfl ga ?_
    with_reducible refine (dyad_Num_Mul.calls k t944 _ _ t945 t948 t950 _ _ t951 t954 t972 t973 t976 _ ?side1 ?side2 ?side3 ?side4 ?side5 A12.out).mono ?_
    (case side1 => exact kvs HO947)
    (case side2 => exact (Kd.V_reads' HO947.out).2.1)
    (case side3 => exact kvs HO953)
    (case side4 => exact (Kd.V_reads' HO953.out).2.1)
    (case side5 => first | exact hT | exact TabW.drewN hT _ | exact TabW.drew hT | exact TabW.below hT bes)
    rintro e w45 ⟨v974, rfl, ho0, hb⟩
    refine ⟨_, rfl, ?_⟩
    refine ax12 (Kd.V_below (kv HO941) hb) (Kd.V_below (kv HO947) hb) (Kd.V_below (kv HO953) hb) (Kd.V_below (kv HO959) hb) (Kd.V_below (kv HO964) hb) (Kd.V_below (kv HO970) hb) (Kd.V_lower (Kd.V_mono (ok' := fun k_ => k_ ≠ gb943 ∧ k_ ≠ gb949 ∧ k_ ≠ gb955 ∧ k_ ≠ gb966) ho0 (fun k_ hk_ => ⟨(fb BK943 k_ hk_), (fb BK949 k_ hk_), (fb BK955 k_ hk_), (fb BK966 k_ hk_)⟩)) (below_size bes)) (bb BK943 hb) (bb BK949 hb) (bb BK955 hb) (bb BK966 hb) (below_step bes hb) ?_
    clear HO941 HO947 HO953 HO959 HO964 HO970 BK943 BK949 BK955 BK966 HB
    intro HO941 HO947 HO953 HO959 HO964 HO970 HO975 BK943 BK949 BK955 BK966 HB
    (try clear hb)
    (try clear hb2)
    (try clear hk)
    (try clear hi)
    (try clear ho0)
    obtain ⟨Ao46, co46, eo46⟩ := Kd.V_slice HO970.out
    (first | subst eo46 | (injection eo46 with f1_ f2_ f3_; have f4_ := f1_.symm; have f5_ := f3_.symm; clear f1_ f2_ f3_; subst f4_; subst f5_))
    obtain ⟨Ao47, co47, eo47⟩ := Kd.V_slice HO975.out
    (first | subst eo47 | (injection eo47 with f1_ f2_ f3_; have f4_ := f1_.symm; have f5_ := f3_.symm; clear f1_ f2_ f3_; subst f4_; subst f5_))
    refine hK.out _ _ ⟨(blk_cell BK955.out 0).trans rfl, (blk_cell BK955.out 1).trans rfl, (blk_cell BK955.out 2).trans rfl, (blk_cell BK943.out 0).trans rfl, (blk_cell BK943.out 1).trans rfl, (blk_cell BK943.out 2).trans rfl, (blk_cell BK949.out 0).trans rfl, (blk_cell BK949.out 1).trans rfl, (blk_cell BK949.out 2).trans rfl⟩ (fun hHeld => ?_)
    clear hK K
    refine norm_ (a' := ?_) ?_ ?_
    rotate_left
    ·
     show Act.put _ (some 30) _ = _
     simp only [Act.put, sa0, sa1, sa2, i64_w, i32_w]
     rfl
    refine two_ (i := 6) (j := 7) (Ni := some 31) (Nj := some 11) #[true, true, true, true, true, true, true, false, false] #[true, true, true, true, true, true, false, true, false] rfl rfl rfl rfl (two_of HT_.out (by kernel_rfl)) (by decide) (by decide) (fun K hK => ?_) (fun K hK => ?_)
    ·
     skip
     refine goes_ Tryd.func11 (by kernel_rfl) rfl #[.agg #[.bool t967, .slice Ao46 t968.length co46, .int .i64 t971], .agg #[.bool t972, .slice Ao47 t973.length co47, .int .i64 t976]] (by rfl) rfl rfl ga ?_
     with_reducible refine (dyad_Num_Add.calls k t967 (fun k_ => (k_ ≠ gb943 ∧ (k_ ≠ gb949 ∧ (k_ ≠ gb955 ∧ k_ ≠ gb966)))) _ _ t968 t971 t972 (fun k_ => (k_ ≠ gb943 ∧ (k_ ≠ gb949 ∧ (k_ ≠ gb955 ∧ k_ ≠ gb966)))) _ _ t973 t976 t977 t978 t981 _ ?side1 ?side2 ?side3 A13.out).mono ?_
     (case side1 => exact HO970.out)
     (case side2 => exact HO975.out)
     (case side3 => first | exact hT | exact TabW.drewN hT _ | exact TabW.drew hT | exact TabW.below hT bes)
     rintro e w48 ⟨v979, rfl, ho0, hb⟩
     refine ⟨_, rfl, ?_⟩
     refine ax13 (Kd.V_below (kv HO941) hb) (Kd.V_below (kv HO947) hb) (Kd.V_below (kv HO953) hb) (Kd.V_below (kv HO959) hb) (Kd.V_below (kv HO964) hb) (Kd.V_below (kv HO970) hb) (Kd.V_below (kv HO975) hb) (Kd.V_lower (Kd.V_mono (ok' := fun k_ => k_ ≠ gb943 ∧ k_ ≠ gb949 ∧ k_ ≠ gb955 ∧ k_ ≠ gb966) ho0 (fun k_ hk_ => ⟨Or.elim hk_ (fun hs_ => Or.elim hs_ (fun hs_ => hs_.1) (fun hs_ => hs_.1)) (fun hn_ => (fb BK943 k_ hn_)), Or.elim hk_ (fun hs_ => Or.elim hs_ (fun hs_ => hs_.2.1) (fun hs_ => hs_.2.1)) (fun hn_ => (fb BK949 k_ hn_)), Or.elim hk_ (fun hs_ => Or.elim hs_ (fun hs_ => hs_.2.2.1) (fun hs_ => hs_.2.2.1)) (fun hn_ => (fb BK955 k_ hn_)), Or.elim hk_ (fun hs_ => Or.elim hs_ (fun hs_ => hs_.2.2.2) (fun hs_ => hs_.2.2.2)) (fun hn_ => (fb BK966 k_ hn_))⟩)) (below_size bes)) (bb BK943 hb) (bb BK949 hb) (bb BK955 hb) (bb BK966 hb) (below_step bes hb) ?_
     clear HO941 HO947 HO953 HO959 HO964 HO970 HO975 BK943 BK949 BK955 BK966 HB
     intro HO941 HO947 HO953 HO959 HO964 HO970 HO975 HO980 BK943 BK949 BK955 BK966 HB
     (try clear hb)
     (try clear hb2)
     (try clear hk)
     (try clear hi)
     (try clear ho0)
     refine hK.out _ _ ⟨(blk_cell BK955.out 0).trans rfl, (blk_cell BK955.out 1).trans rfl, (blk_cell BK955.out 2).trans rfl, (blk_cell BK943.out 0).trans rfl, (blk_cell BK943.out 1).trans rfl, (blk_cell BK943.out 2).trans rfl, (blk_cell BK949.out 0).trans rfl, (blk_cell BK949.out 1).trans rfl, (blk_cell BK949.out 2).trans rfl⟩ (fun hHeld => ?_)
     clear hK K
     refine norm_ (a' := ?_) ?_ ?_
     rotate_left
     ·
      show Act.put _ (some 31) _ = _
      simp only [Act.put, sa0, sa1, sa2, i64_w, i32_w]
      rfl
     refine one_ (i := 7) (N := some 11) #[true, true, true, true, true, true, true, true, false] rfl rfl (one_of HT_.out (by kernel_rfl)) (by decide) (fun K hK => ?_)
     refine box_step ?hg (N := 11) ?hd (cs := #[.bool false, .slice none 0 0, .int .i64 0]) (t := 26) ?hr ?_; (case hd => rfl); (case hg => rfl); (case hr => first | (go_simp; done) | (go_simp; rfl))
     intro gb982 hg w49 hbox hb
     refine ax24 (Kd.V_below (Kd.V_elderB (kv HO941) gb982 (Nat.le_of_eq hg.symm)) hb) (Kd.V_below (Kd.V_elderB (kv HO947) gb982 (Nat.le_of_eq hg.symm)) hb) (Kd.V_below (Kd.V_elderB (kv HO953) gb982 (Nat.le_of_eq hg.symm)) hb) (Kd.V_below (Kd.V_elderB (kv HO959) gb982 (Nat.le_of_eq hg.symm)) hb) (Kd.V_below (Kd.V_elderB (kv HO964) gb982 (Nat.le_of_eq hg.symm)) hb) (Kd.V_below (Kd.V_elderB (kv HO970) gb982 (Nat.le_of_eq hg.symm)) hb) (Kd.V_below (Kd.V_elderB (kv HO975) gb982 (Nat.le_of_eq hg.symm)) hb) (Kd.V_below (Kd.V_elderB (kv HO980) gb982 (Nat.le_of_eq hg.symm)) hb) (bb BK943 hb) (bb BK949 hb) (bb BK955 hb) (bb BK966 hb) (below_step bes hb) hbox ((ge hg : w.heap.size ≤ gb982)) ((ge hg : w.heap.size ≤ gb982)) (nl hg BK943) (ng hg BK943) (nl hg BK949) (ng hg BK949) (nl hg BK955) (ng hg BK955) (nl hg BK966) (ng hg BK966) ?_
     clear HO941 HO947 HO953 HO959 HO964 HO970 HO975 HO980 BK943 BK949 BK955 BK966 HB
     intro HO941 HO947 HO953 HO959 HO964 HO970 HO975 HO980 BK943 BK949 BK955 BK966 HB BK982 GW982 GE982 NB943_982 NB982_943 NB949_982 NB982_949 NB955_982 NB982_955 NB966_982 NB982_966
     clear hb hbox hg
     refine hK.out _ _ ⟨(blk_cell BK955.out 0).trans rfl, (blk_cell BK955.out 1).trans rfl, (blk_cell BK955.out 2).trans rfl, (blk_cell BK943.out 0).trans rfl, (blk_cell BK943.out 1).trans rfl, (blk_cell BK943.out 2).trans rfl, (blk_cell BK949.out 0).trans rfl, (blk_cell BK949.out 1).trans rfl, (blk_cell BK949.out 2).trans rfl⟩ (fun hHeld => ?_)
     clear hK K
     refine norm_ (a' := ?_) ?_ ?_
     rotate_left
     ·
      show Act.put _ (some 11) _ = _
      simp only [Act.put, sa0, sa1, sa2, i64_w, i32_w]
      rfl
     exact norm_ (by simp only [putAll, Act.put, List.setIfInBounds_toArray, List.set_cons_zero, List.set_cons_succ]) (hCont (.slice Ao46 t968.length co46, .slice Ao47 t973.length co47, v979, gb982) _ ⟨hHeld, (by (with_reducible repeat (first | apply Kd.V_alloc | apply Kd.V_drewN | apply Kd.V_drew)); exact Kd.V_mono HO941.out (fun _ hk => ⟨hk.1.1, ⟨hk.1.2.1, ⟨hk.1.2.2.1, ⟨hk.1.2.2.2, hk.2⟩⟩⟩⟩)), (by (with_reducible repeat (first | apply Kd.V_alloc | apply Kd.V_drewN | apply Kd.V_drew)); exact Kd.V_mono HO947.out (fun _ hk => ⟨hk.1.1, ⟨hk.1.2.1, ⟨hk.1.2.2.1, ⟨hk.1.2.2.2, hk.2⟩⟩⟩⟩)), (by (with_reducible repeat (first | apply Kd.V_alloc | apply Kd.V_drewN | apply Kd.V_drew)); exact Kd.V_mono HO953.out (fun _ hk => ⟨hk.1.1, ⟨hk.1.2.1, ⟨hk.1.2.2.1, ⟨hk.1.2.2.2, hk.2⟩⟩⟩⟩)), (by (with_reducible repeat (first | apply Kd.V_alloc | apply Kd.V_drewN | apply Kd.V_drew)); exact Kd.V_mono HO959.out (fun _ hk => ⟨hk.1.1, ⟨hk.1.2.1, ⟨hk.1.2.2.1, ⟨hk.1.2.2.2, hk.2⟩⟩⟩⟩)), (by (with_reducible repeat (first | apply Kd.V_alloc | apply Kd.V_drewN | apply Kd.V_drew)); exact Kd.V_mono HO964.out (fun _ hk => ⟨hk.1.1, ⟨hk.1.2.1, ⟨hk.1.2.2.1, ⟨hk.1.2.2.2, hk.2⟩⟩⟩⟩)), (by (with_reducible repeat (first | apply Kd.V_alloc | apply Kd.V_drewN | apply Kd.V_drew)); exact Kd.V_mono HO970.out (fun _ hk => ⟨hk.1.1, ⟨hk.1.2.1, ⟨hk.1.2.2.1, ⟨hk.1.2.2.2, hk.2⟩⟩⟩⟩)), (by (with_reducible repeat (first | apply Kd.V_alloc | apply Kd.V_drewN | apply Kd.V_drew)); exact Kd.V_mono HO975.out (fun _ hk => ⟨hk.1.1, ⟨hk.1.2.1, ⟨hk.1.2.2.1, ⟨hk.1.2.2.2, hk.2⟩⟩⟩⟩)), (by (with_reducible repeat (first | apply Kd.V_alloc | apply Kd.V_drewN | apply Kd.V_drew)); exact Kd.V_mono HO980.out (fun _ hk => ⟨hk.1.1, ⟨hk.1.2.1, ⟨hk.1.2.2.1, ⟨hk.1.2.2.2, hk.2⟩⟩⟩⟩)), (kb BK943), (kb BK949), (kb BK955), (kb BK966), (kb BK982), GW982.out, GE982.out, NB943_982.out, NB982_943.out, NB949_982.out, NB982_949.out, NB955_982.out, NB982_955.out, NB966_982.out, NB982_966.out, bes⟩)
    ·
     skip
     refine box_step ?hg (N := 11) ?hd (cs := #[.bool false, .slice none 0 0, .int .i64 0]) (t := 26) ?hr ?_; (case hd => rfl); (case hg => rfl); (case hr => first | (go_simp; done) | (go_simp; rfl))
     intro gb982 hg w46 hbox hb
     refine ax23 (Kd.V_below (Kd.V_elderB (kv HO941) gb982 (Nat.le_of_eq hg.symm)) hb) (Kd.V_below (Kd.V_elderB (kv HO947) gb982 (Nat.le_of_eq hg.symm)) hb) (Kd.V_below (Kd.V_elderB (kv HO953) gb982 (Nat.le_of_eq hg.symm)) hb) (Kd.V_below (Kd.V_elderB (kv HO959) gb982 (Nat.le_of_eq hg.symm)) hb) (Kd.V_below (Kd.V_elderB (kv HO964) gb982 (Nat.le_of_eq hg.symm)) hb) (Kd.V_below (Kd.V_elderB (kv HO970) gb982 (Nat.le_of_eq hg.symm)) hb) (Kd.V_below (Kd.V_elderB (kv HO975) gb982 (Nat.le_of_eq hg.symm)) hb) (bb BK943 hb) (bb BK949 hb) (bb BK955 hb) (bb BK966 hb) (below_step bes hb) hbox ((ge hg : w.heap.size ≤ gb982)) ((ge hg : w.heap.size ≤ gb982)) (nl hg BK943) (ng hg BK943) (nl hg BK949) (ng hg BK949) (nl hg BK955) (ng hg BK955) (nl hg BK966) (ng hg BK966) ?_
     clear HO941 HO947 HO953 HO959 HO964 HO970 HO975 BK943 BK949 BK955 BK966 HB
     intro HO941 HO947 HO953 HO959 HO964 HO970 HO975 BK943 BK949 BK955 BK966 HB BK982 GW982 GE982 NB943_982 NB982_943 NB949_982 NB982_949 NB955_982 NB982_955 NB966_982 NB982_966
     clear hb hbox hg
     obtain ⟨Ao47, co47, eo47⟩ := Kd.V_slice HO970.out
     (first | subst eo47 | (injection eo47 with f1_ f2_ f3_; have f4_ := f1_.symm; have f5_ := f3_.symm; clear f1_ f2_ f3_; subst f4_; subst f5_))
     obtain ⟨Ao48, co48, eo48⟩ := Kd.V_slice HO975.out
     (first | subst eo48 | (injection eo48 with f1_ f2_ f3_; have f4_ := f1_.symm; have f5_ := f3_.symm; clear f1_ f2_ f3_; subst f4_; subst f5_))
     refine hK.out _ _ ⟨(blk_cell BK955.out 0).trans rfl, (blk_cell BK955.out 1).trans rfl, (blk_cell BK955.out 2).trans rfl, (blk_cell BK943.out 0).trans rfl, (blk_cell BK943.out 1).trans rfl, (blk_cell BK943.out 2).trans rfl, (blk_cell BK949.out 0).trans rfl, (blk_cell BK949.out 1).trans rfl, (blk_cell BK949.out 2).trans rfl⟩ (fun hHeld => ?_)
     clear hK K
     refine norm_ (a' := ?_) ?_ ?_
     rotate_left
     ·
      show Act.put _ (some 11) _ = _
      simp only [Act.put, sa0, sa1, sa2, i64_w, i32_w]
      rfl
     refine one_ (i := 6) (N := some 31) #[true, true, true, true, true, true, true, true, false] rfl rfl (one_of HT_.out (by kernel_rfl)) (by decide) (fun K hK => ?_)
     refine goes_ Tryd.func11 (by kernel_rfl) rfl #[.agg #[.bool t967, .slice Ao47 t968.length co47, .int .i64 t971], .agg #[.bool t972, .slice Ao48 t973.length co48, .int .i64 t976]] (by rfl) rfl rfl ga ?_
     with_reducible refine (dyad_Num_Add.calls k t967 (fun k_ => ((k_ ≠ gb943 ∧ (k_ ≠ gb949 ∧ (k_ ≠ gb955 ∧ k_ ≠ gb966))) ∧ k_ ≠ gb982)) _ _ t968 t971 t972 (fun k_ => ((k_ ≠ gb943 ∧ (k_ ≠ gb949 ∧ (k_ ≠ gb955 ∧ k_ ≠ gb966))) ∧ k_ ≠ gb982)) _ _ t973 t976 t977 t978 t981 _ ?side1 ?side2 ?side3 A13.out).mono ?_
     (case side1 => exact HO970.out)
     (case side2 => exact HO975.out)
     (case side3 => first | exact hT | exact TabW.drewN hT _ | exact TabW.drew hT | exact TabW.below hT bes)
     rintro e w49 ⟨v979, rfl, ho0, hb⟩
     refine ⟨_, rfl, ?_⟩
     refine ax14 (Kd.V_below (kv HO941) hb) (Kd.V_below (kv HO947) hb) (Kd.V_below (kv HO953) hb) (Kd.V_below (kv HO959) hb) (Kd.V_below (kv HO964) hb) (Kd.V_below (kv HO970) hb) (Kd.V_below (kv HO975) hb) (Kd.V_lower (Kd.V_mono (ok' := fun k_ => k_ ≠ gb943 ∧ k_ ≠ gb949 ∧ k_ ≠ gb955 ∧ k_ ≠ gb966 ∧ k_ ≠ gb982) ho0 (fun k_ hk_ => ⟨Or.elim hk_ (fun hs_ => Or.elim hs_ (fun hs_ => hs_.1.1) (fun hs_ => hs_.1.1)) (fun hn_ => (fb BK943 k_ hn_)), Or.elim hk_ (fun hs_ => Or.elim hs_ (fun hs_ => hs_.1.2.1) (fun hs_ => hs_.1.2.1)) (fun hn_ => (fb BK949 k_ hn_)), Or.elim hk_ (fun hs_ => Or.elim hs_ (fun hs_ => hs_.1.2.2.1) (fun hs_ => hs_.1.2.2.1)) (fun hn_ => (fb BK955 k_ hn_)), Or.elim hk_ (fun hs_ => Or.elim hs_ (fun hs_ => hs_.1.2.2.2) (fun hs_ => hs_.1.2.2.2)) (fun hn_ => (fb BK966 k_ hn_)), Or.elim hk_ (fun hs_ => Or.elim hs_ (fun hs_ => hs_.2) (fun hs_ => hs_.2)) (fun hn_ => (fb BK982 k_ hn_))⟩)) (below_size bes)) (bb BK943 hb) (bb BK949 hb) (bb BK955 hb) (bb BK966 hb) (bb BK982 hb) (below_step bes hb) ?_
     clear HO941 HO947 HO953 HO959 HO964 HO970 HO975 BK943 BK949 BK955 BK966 BK982 HB
     intro HO941 HO947 HO953 HO959 HO964 HO970 HO975 HO980 BK943 BK949 BK955 BK966 BK982 HB
     (try clear hb)
     (try clear hb2)
     (try clear hk)
     (try clear hi)
     (try clear ho0)
     refine hK.out _ _ ⟨(blk_cell BK955.out 0).trans rfl, (blk_cell BK955.out 1).trans rfl, (blk_cell BK955.out 2).trans rfl, (blk_cell BK943.out 0).trans rfl, (blk_cell BK943.out 1).trans rfl, (blk_cell BK943.out 2).trans rfl, (blk_cell BK949.out 0).trans rfl, (blk_cell BK949.out 1).trans rfl, (blk_cell BK949.out 2).trans rfl⟩ (fun hHeld => ?_)
     clear hK K
     refine norm_ (a' := ?_) ?_ ?_
     rotate_left
     ·
      show Act.put _ (some 31) _ = _
      simp only [Act.put, sa0, sa1, sa2, i64_w, i32_w]
      rfl
     exact norm_ (by simp only [putAll, Act.put, List.setIfInBounds_toArray, List.set_cons_zero, List.set_cons_succ]) (hCont (.slice Ao47 t968.length co47, .slice Ao48 t973.length co48, v979, gb982) _ ⟨hHeld, (by (with_reducible repeat (first | apply Kd.V_alloc | apply Kd.V_drewN | apply Kd.V_drew)); exact Kd.V_mono HO941.out (fun _ hk => ⟨hk.1.1, ⟨hk.1.2.1, ⟨hk.1.2.2.1, ⟨hk.1.2.2.2, hk.2⟩⟩⟩⟩)), (by (with_reducible repeat (first | apply Kd.V_alloc | apply Kd.V_drewN | apply Kd.V_drew)); exact Kd.V_mono HO947.out (fun _ hk => ⟨hk.1.1, ⟨hk.1.2.1, ⟨hk.1.2.2.1, ⟨hk.1.2.2.2, hk.2⟩⟩⟩⟩)), (by (with_reducible repeat (first | apply Kd.V_alloc | apply Kd.V_drewN | apply Kd.V_drew)); exact Kd.V_mono HO953.out (fun _ hk => ⟨hk.1.1, ⟨hk.1.2.1, ⟨hk.1.2.2.1, ⟨hk.1.2.2.2, hk.2⟩⟩⟩⟩)), (by (with_reducible repeat (first | apply Kd.V_alloc | apply Kd.V_drewN | apply Kd.V_drew)); exact Kd.V_mono HO959.out (fun _ hk => ⟨hk.1.1, ⟨hk.1.2.1, ⟨hk.1.2.2.1, ⟨hk.1.2.2.2, hk.2⟩⟩⟩⟩)), (by (with_reducible repeat (first | apply Kd.V_alloc | apply Kd.V_drewN | apply Kd.V_drew)); exact Kd.V_mono HO964.out (fun _ hk => ⟨hk.1.1, ⟨hk.1.2.1, ⟨hk.1.2.2.1, ⟨hk.1.2.2.2, hk.2⟩⟩⟩⟩)), (by (with_reducible repeat (first | apply Kd.V_alloc | apply Kd.V_drewN | apply Kd.V_drew)); exact Kd.V_mono HO970.out (fun _ hk => ⟨hk.1.1, ⟨hk.1.2.1, ⟨hk.1.2.2.1, ⟨hk.1.2.2.2, hk.2⟩⟩⟩⟩)), (by (with_reducible repeat (first | apply Kd.V_alloc | apply Kd.V_drewN | apply Kd.V_drew)); exact Kd.V_mono HO975.out (fun _ hk => ⟨hk.1.1, ⟨hk.1.2.1, ⟨hk.1.2.2.1, ⟨hk.1.2.2.2, hk.2⟩⟩⟩⟩)), (kv HO980), (kb BK943), (kb BK949), (kb BK955), (kb BK966), (kb BK982), GW982.out, GE982.out, NB943_982.out, NB982_943.out, NB949_982.out, NB982_949.out, NB955_982.out, NB982_955.out, NB966_982.out, NB982_966.out, bes⟩)
   ·
    skip
    refine box_step ?hg (N := 11) ?hd (cs := #[.bool false, .slice none 0 0, .int .i64 0]) (t := 26) ?hr ?_; (case hd => rfl); (case hg => rfl); (case hr => first | (go_simp; done) | (go_simp; rfl))
    intro gb982 hg w45 hbox hb
    refine ax22 (Kd.V_below (Kd.V_elderB (kv HO941) gb982 (Nat.le_of_eq hg.symm)) hb) (Kd.V_below (Kd.V_elderB (kv HO947) gb982 (Nat.le_of_eq hg.symm)) hb) (Kd.V_below (Kd.V_elderB (kv HO953) gb982 (Nat.le_of_eq hg.symm)) hb) (Kd.V_below (Kd.V_elderB (kv HO959) gb982 (Nat.le_of_eq hg.symm)) hb) (Kd.V_below (Kd.V_elderB (kv HO964) gb982 (Nat.le_of_eq hg.symm)) hb) (Kd.V_below (Kd.V_elderB (kv HO970) gb982 (Nat.le_of_eq hg.symm)) hb) (bb BK943 hb) (bb BK949 hb) (bb BK955 hb) (bb BK966 hb) (below_step bes hb) hbox ((ge hg : w.heap.size ≤ gb982)) ((ge hg : w.heap.size ≤ gb982)) (nl hg BK943) (ng hg BK943) (nl hg BK949) (ng hg BK949) (nl hg BK955) (ng hg BK955) (nl hg BK966) (ng hg BK966) ?_
    clear HO941 HO947 HO953 HO959 HO964 HO970 BK943 BK949 BK955 BK966 HB
    intro HO941 HO947 HO953 HO959 HO964 HO970 BK943 BK949 BK955 BK966 HB BK982 GW982 GE982 NB943_982 NB982_943 NB949_982 NB982_949 NB955_982 NB982_955 NB966_982 NB982_966
    clear hb hbox hg
    refine hK.out _ _ ⟨(blk_cell BK955.out 0).trans rfl, (blk_cell BK955.out 1).trans rfl, (blk_cell BK955.out 2).trans rfl, (blk_cell BK943.out 0).trans rfl, (blk_cell BK943.out 1).trans rfl, (blk_cell BK943.out 2).trans rfl, (blk_cell BK949.out 0).trans rfl, (blk_cell BK949.out 1).trans rfl, (blk_cell BK949.out 2).trans rfl⟩ (fun hHeld => ?_)
    clear hK K
    refine norm_ (a' := ?_) ?_ ?_
    rotate_left
    ·
     show Act.put _ (some 11) _ = _
     simp only [Act.put, sa0, sa1, sa2, i64_w, i32_w]
     rfl
    refine one_ (i := 5) (N := some 30) #[true, true, true, true, true, true, false, true, false] rfl rfl (one_of HT_.out (by kernel_rfl)) (by decide) (fun K hK => ?_)
    refine goes_ Tryd.func13 (by kernel_rfl) rfl #[.agg #[.bool t944, .slice Ao24 t945.length co24, .int .i64 t948], .agg #[.bool t950, .slice Ao30 t951.length co30, .int .i64 t954]] (by rfl) rfl rfl ga ?_
    with_reducible refine (dyad_Num_Mul.calls k t944 _ _ t945 t948 t950 _ _ t951 t954 t972 t973 t976 _ ?side1 ?side2 ?side3 ?side4 ?side5 A12.out).mono ?_
    (case side1 => exact kvs HO947)
    (case side2 => exact (Kd.V_reads' HO947.out).2.1)
    (case side3 => exact kvs HO953)
    (case side4 => exact (Kd.V_reads' HO953.out).2.1)
    (case side5 => first | exact hT | exact TabW.drewN hT _ | exact TabW.drew hT | exact TabW.below hT bes)
    rintro e w46 ⟨v974, rfl, ho0, hb⟩
    refine ⟨_, rfl, ?_⟩
    refine ax13 (Kd.V_below (kv HO941) hb) (Kd.V_below (kv HO947) hb) (Kd.V_below (kv HO953) hb) (Kd.V_below (kv HO959) hb) (Kd.V_below (kv HO964) hb) (Kd.V_below (kv HO970) hb) (Kd.V_lower (Kd.V_mono (ok' := fun k_ => k_ ≠ gb943 ∧ k_ ≠ gb949 ∧ k_ ≠ gb955 ∧ k_ ≠ gb966 ∧ k_ ≠ gb982) ho0 (fun k_ hk_ => ⟨(fb BK943 k_ hk_), (fb BK949 k_ hk_), (fb BK955 k_ hk_), (fb BK966 k_ hk_), (fb BK982 k_ hk_)⟩)) (below_size bes)) (bb BK943 hb) (bb BK949 hb) (bb BK955 hb) (bb BK966 hb) (bb BK982 hb) (below_step bes hb) ?_
    clear HO941 HO947 HO953 HO959 HO964 HO970 BK943 BK949 BK955 BK966 BK982 HB
    intro HO941 HO947 HO953 HO959 HO964 HO970 HO975 BK943 BK949 BK955 BK966 BK982 HB
    (try clear hb)
    (try clear hb2)
    (try clear hk)
    (try clear hi)
    (try clear ho0)
    obtain ⟨Ao47, co47, eo47⟩ := Kd.V_slice HO970.out
    (first | subst eo47 | (injection eo47 with f1_ f2_ f3_; have f4_ := f1_.symm; have f5_ := f3_.symm; clear f1_ f2_ f3_; subst f4_; subst f5_))
    obtain ⟨Ao48, co48, eo48⟩ := Kd.V_slice HO975.out
    (first | subst eo48 | (injection eo48 with f1_ f2_ f3_; have f4_ := f1_.symm; have f5_ := f3_.symm; clear f1_ f2_ f3_; subst f4_; subst f5_))
    refine hK.out _ _ ⟨(blk_cell BK955.out 0).trans rfl, (blk_cell BK955.out 1).trans rfl, (blk_cell BK955.out 2).trans rfl, (blk_cell BK943.out 0).trans rfl, (blk_cell BK943.out 1).trans rfl, (blk_cell BK943.out 2).trans rfl, (blk_cell BK949.out 0).trans rfl, (blk_cell BK949.out 1).trans rfl, (blk_cell BK949.out 2).trans rfl⟩ (fun hHeld => ?_)
    clear hK K
    refine norm_ (a' := ?_) ?_ ?_
    rotate_left
    ·
     show Act.put _ (some 30) _ = _
     simp only [Act.put, sa0, sa1, sa2, i64_w, i32_w]
     rfl
    refine one_ (i := 6) (N := some 31) #[true, true, true, true, true, true, true, true, false] rfl rfl (one_of HT_.out (by kernel_rfl)) (by decide) (fun K hK => ?_)
    refine goes_ Tryd.func11 (by kernel_rfl) rfl #[.agg #[.bool t967, .slice Ao47 t968.length co47, .int .i64 t971], .agg #[.bool t972, .slice Ao48 t973.length co48, .int .i64 t976]] (by rfl) rfl rfl ga ?_
    with_reducible refine (dyad_Num_Add.calls k t967 (fun k_ => ((k_ ≠ gb943 ∧ (k_ ≠ gb949 ∧ (k_ ≠ gb955 ∧ k_ ≠ gb966))) ∧ k_ ≠ gb982)) _ _ t968 t971 t972 (fun k_ => (k_ ≠ gb943 ∧ (k_ ≠ gb949 ∧ (k_ ≠ gb955 ∧ (k_ ≠ gb966 ∧ k_ ≠ gb982))))) _ _ t973 t976 t977 t978 t981 _ ?side1 ?side2 ?side3 A13.out).mono ?_
    (case side1 => exact HO970.out)
    (case side2 => exact HO975.out)
    (case side3 => first | exact hT | exact TabW.drewN hT _ | exact TabW.drew hT | exact TabW.below hT bes)
    rintro e w49 ⟨v979, rfl, ho0, hb⟩
    refine ⟨_, rfl, ?_⟩
    refine ax14 (Kd.V_below (kv HO941) hb) (Kd.V_below (kv HO947) hb) (Kd.V_below (kv HO953) hb) (Kd.V_below (kv HO959) hb) (Kd.V_below (kv HO964) hb) (Kd.V_below (kv HO970) hb) (Kd.V_below (kv HO975) hb) (Kd.V_lower (Kd.V_mono (ok' := fun k_ => k_ ≠ gb943 ∧ k_ ≠ gb949 ∧ k_ ≠ gb955 ∧ k_ ≠ gb966 ∧ k_ ≠ gb982) ho0 (fun k_ hk_ => ⟨Or.elim hk_ (fun hs_ => Or.elim hs_ (fun hs_ => hs_.1.1) (fun hs_ => hs_.1)) (fun hn_ => (fb BK943 k_ hn_)), Or.elim hk_ (fun hs_ => Or.elim hs_ (fun hs_ => hs_.1.2.1) (fun hs_ => hs_.2.1)) (fun hn_ => (fb BK949 k_ hn_)), Or.elim hk_ (fun hs_ => Or.elim hs_ (fun hs_ => hs_.1.2.2.1) (fun hs_ => hs_.2.2.1)) (fun hn_ => (fb BK955 k_ hn_)), Or.elim hk_ (fun hs_ => Or.elim hs_ (fun hs_ => hs_.1.2.2.2) (fun hs_ => hs_.2.2.2.1)) (fun hn_ => (fb BK966 k_ hn_)), Or.elim hk_ (fun hs_ => Or.elim hs_ (fun hs_ => hs_.2) (fun hs_ => hs_.2.2.2.2)) (fun hn_ => (fb BK982 k_ hn_))⟩)) (below_size bes)) (bb BK943 hb) (bb BK949 hb) (bb BK955 hb) (bb BK966 hb) (bb BK982 hb) (below_step bes hb) ?_
    clear HO941 HO947 HO953 HO959 HO964 HO970 HO975 BK943 BK949 BK955 BK966 BK982 HB
    intro HO941 HO947 HO953 HO959 HO964 HO970 HO975 HO980 BK943 BK949 BK955 BK966 BK982 HB
    (try clear hb)
    (try clear hb2)
    (try clear hk)
    (try clear hi)
    (try clear ho0)
    refine hK.out _ _ ⟨(blk_cell BK955.out 0).trans rfl, (blk_cell BK955.out 1).trans rfl, (blk_cell BK955.out 2).trans rfl, (blk_cell BK943.out 0).trans rfl, (blk_cell BK943.out 1).trans rfl, (blk_cell BK943.out 2).trans rfl, (blk_cell BK949.out 0).trans rfl, (blk_cell BK949.out 1).trans rfl, (blk_cell BK949.out 2).trans rfl⟩ (fun hHeld => ?_)
    clear hK K
    refine norm_ (a' := ?_) ?_ ?_
    rotate_left
    ·
     show Act.put _ (some 31) _ = _
     simp only [Act.put, sa0, sa1, sa2, i64_w, i32_w]
     rfl
    exact norm_ (by simp only [putAll, Act.put, List.setIfInBounds_toArray, List.set_cons_zero, List.set_cons_succ]) (hCont (.slice Ao47 t968.length co47, .slice Ao48 t973.length co48, v979, gb982) _ ⟨hHeld, (by (with_reducible repeat (first | apply Kd.V_alloc | apply Kd.V_drewN | apply Kd.V_drew)); exact Kd.V_mono HO941.out (fun _ hk => ⟨hk.1.1, ⟨hk.1.2.1, ⟨hk.1.2.2.1, ⟨hk.1.2.2.2, hk.2⟩⟩⟩⟩)), (by (with_reducible repeat (first | apply Kd.V_alloc | apply Kd.V_drewN | apply Kd.V_drew)); exact Kd.V_mono HO947.out (fun _ hk => ⟨hk.1.1, ⟨hk.1.2.1, ⟨hk.1.2.2.1, ⟨hk.1.2.2.2, hk.2⟩⟩⟩⟩)), (by (with_reducible repeat (first | apply Kd.V_alloc | apply Kd.V_drewN | apply Kd.V_drew)); exact Kd.V_mono HO953.out (fun _ hk => ⟨hk.1.1, ⟨hk.1.2.1, ⟨hk.1.2.2.1, ⟨hk.1.2.2.2, hk.2⟩⟩⟩⟩)), (by (with_reducible repeat (first | apply Kd.V_alloc | apply Kd.V_drewN | apply Kd.V_drew)); exact Kd.V_mono HO959.out (fun _ hk => ⟨hk.1.1, ⟨hk.1.2.1, ⟨hk.1.2.2.1, ⟨hk.1.2.2.2, hk.2⟩⟩⟩⟩)), (by (with_reducible repeat (first | apply Kd.V_alloc | apply Kd.V_drewN | apply Kd.V_drew)); exact Kd.V_mono HO964.out (fun _ hk => ⟨hk.1.1, ⟨hk.1.2.1, ⟨hk.1.2.2.1, ⟨hk.1.2.2.2, hk.2⟩⟩⟩⟩)), (by (with_reducible repeat (first | apply Kd.V_alloc | apply Kd.V_drewN | apply Kd.V_drew)); exact Kd.V_mono HO970.out (fun _ hk => ⟨hk.1.1, ⟨hk.1.2.1, ⟨hk.1.2.2.1, ⟨hk.1.2.2.2, hk.2⟩⟩⟩⟩)), (kv HO975), (kv HO980), (kb BK943), (kb BK949), (kb BK955), (kb BK966), (kb BK982), GW982.out, GE982.out, NB943_982.out, NB982_943.out, NB949_982.out, NB982_949.out, NB955_982.out, NB982_955.out, NB966_982.out, NB982_966.out, bes⟩)
  ·
   skip
   refine box_step ?hg (N := 11) ?hd (cs := #[.bool false, .slice none 0 0, .int .i64 0]) (t := 26) ?hr ?_; (case hd => rfl); (case hg => rfl); (case hr => first | (go_simp; done) | (go_simp; rfl))
   intro gb982 hg w44 hbox hb
   refine ax21 (Kd.V_below (Kd.V_elderB (kv HO941) gb982 (Nat.le_of_eq hg.symm)) hb) (Kd.V_below (Kd.V_elderB (kv HO947) gb982 (Nat.le_of_eq hg.symm)) hb) (Kd.V_below (Kd.V_elderB (kv HO953) gb982 (Nat.le_of_eq hg.symm)) hb) (Kd.V_below (Kd.V_elderB (kv HO959) gb982 (Nat.le_of_eq hg.symm)) hb) (Kd.V_below (Kd.V_elderB (kv HO964) gb982 (Nat.le_of_eq hg.symm)) hb) (bb BK943 hb) (bb BK949 hb) (bb BK955 hb) (bb BK966 hb) (below_step bes hb) hbox ((ge hg : w.heap.size ≤ gb982)) ((ge hg : w.heap.size ≤ gb982)) (nl hg BK943) (ng hg BK943) (nl hg BK949) (ng hg BK949) (nl hg BK955) (ng hg BK955) (nl hg BK966) (ng hg BK966) ?_
   clear HO941 HO947 HO953 HO959 HO964 BK943 BK949 BK955 BK966 HB
   intro HO941 HO947 HO953 HO959 HO964 BK943 BK949 BK955 BK966 HB BK982 GW982 GE982 NB943_982 NB982_943 NB949_982 NB982_949 NB955_982 NB982_955 NB966_982 NB982_966
   clear hb hbox hg
   refine hK.out _ _ ⟨(blk_cell BK955.out 0).trans rfl, (blk_cell BK955.out 1).trans rfl, (blk_cell BK955.out 2).trans rfl, (blk_cell BK943.out 0).trans rfl, (blk_cell BK943.out 1).trans rfl, (blk_cell BK943.out 2).trans rfl, (blk_cell BK949.out 0).trans rfl, (blk_cell BK949.out 1).trans rfl, (blk_cell BK949.out 2).trans rfl⟩ (fun hHeld => ?_)
   clear hK K
   refine norm_ (a' := ?_) ?_ ?_
   rotate_left
   ·
    show Act.put _ (some 11) _ = _
    simp only [Act.put, sa0, sa1, sa2, i64_w, i32_w]
    rfl
   refine one_ (i := 2) (N := some 27) #[true, true, true, true, true, false, false, true, false] rfl rfl (one_of HT_.out (by kernel_rfl)) (by decide) (fun K hK => ?_)
   refine goes_ Tryd.func13 (by kernel_rfl) rfl #[.agg #[.bool t950, .slice Ao30 t951.length co30, .int .i64 t954], .agg #[.bool t938, .slice Ao19 t939.length co19, .int .i64 t942]] (by rfl) rfl rfl ga ?_
   with_reducible refine (dyad_Num_Mul.calls k t950 _ _ t951 t954 t938 _ _ t939 t942 t967 t968 t971 _ ?side1 ?side2 ?side3 ?side4 ?side5 A11.out).mono ?_
   (case side1 => exact kvs HO953)
   (case side2 => exact (Kd.V_reads' HO953.out).2.1)
   (case side3 => exact kvs HO941)
   (case side4 => exact (Kd.V_reads' HO941.out).2.1)
   (case side5 => first | exact hT | exact TabW.drewN hT _ | exact TabW.drew hT | exact TabW.below hT bes)
   rintro e w45 ⟨v969, rfl, ho0, hb⟩
   refine ⟨_, rfl, ?_⟩
   refine ax12 (Kd.V_below (kv HO941) hb) (Kd.V_below (kv HO947) hb) (Kd.V_below (kv HO953) hb) (Kd.V_below (kv HO959) hb) (Kd.V_below (kv HO964) hb) (Kd.V_lower (Kd.V_mono (ok' := fun k_ => k_ ≠ gb943 ∧ k_ ≠ gb949 ∧ k_ ≠ gb955 ∧ k_ ≠ gb966 ∧ k_ ≠ gb982) ho0 (fun k_ hk_ => ⟨(fb BK943 k_ hk_), (fb BK949 k_ hk_), (fb BK955 k_ hk_), (fb BK966 k_ hk_), (fb BK982 k_ hk_)⟩)) (below_size bes)) (bb BK943 hb) (bb BK949 hb) (bb BK955 hb) (bb BK966 hb) (bb BK982 hb) (below_step bes hb) ?_
   clear HO941 HO947 HO953 HO959 HO964 BK943 BK949 BK955 BK966 BK982 HB
   intro HO941 HO947 HO953 HO959 HO964 HO970 BK943 BK949 BK955 BK966 BK982 HB
   (try clear hb)
   (try clear hb2)
   (try clear hk)
   (try clear hi)
   (try clear ho0)
   refine hK.out _ _ ⟨(blk_cell BK955.out 0).trans rfl, (blk_cell BK955.out 1).trans rfl, (blk_cell BK955.out 2).trans rfl, (blk_cell BK943.out 0).trans rfl, (blk_cell BK943.out 1).trans rfl, (blk_cell BK943.out 2).trans rfl, (blk_cell BK949.out 0).trans rfl, (blk_cell BK949.out 1).trans rfl, (blk_cell BK949.out 2).trans rfl⟩ (fun hHeld => ?_)
   clear hK K
   refine norm_ (a' := ?_) ?_ ?_
   rotate_left
   ·
    show Act.put _ (some 27) _ = _
    simp only [Act.put, sa0, sa1, sa2, i64_w, i32_w]
    rfl
   refine one_ (i := 5) (N := some 30) #[true, true, true, true, true, true, false, true, false] rfl rfl (one_of HT_.out (by kernel_rfl)) (by decide) (fun K hK => ?_)
   refine goes_ Tryd.func13 (by kernel_rfl) rfl #[.agg #[.bool t944, .slice Ao24 t945.length co24, .int .i64 t948], .agg #[.bool t950, .slice Ao30 t951.length co30, .int .i64 t954]] (by rfl) rfl rfl ga ?_
   with_reducible refine (dyad_Num_Mul.calls k t944 _ _ t945 t948 t950 _ _ t951 t954 t972 t973 t976 _ ?side1 ?side2 ?side3 ?side4 ?side5 A12.out).mono ?_
   (case side1 => exact kvs HO947)
   (case side2 => exact (Kd.V_reads' HO947.out).2.1)
   (case side3 => exact kvs HO953)
   (case side4 => exact (Kd.V_reads' HO953.out).2.1)
   (case side5 => first | exact hT | exact TabW.drewN hT _ | exact TabW.drew hT | exact TabW.below hT bes)
   rintro e w46 ⟨v974, rfl, ho0, hb⟩
   refine ⟨_, rfl, ?_⟩
   refine ax13 (Kd.V_below (kv HO941) hb) (Kd.V_below (kv HO947) hb) (Kd.V_below (kv HO953) hb) (Kd.V_below (kv HO959) hb) (Kd.V_below (kv HO964) hb) (Kd.V_below (kv HO970) hb) (Kd.V_lower (Kd.V_mono (ok' := fun k_ => k_ ≠ gb943 ∧ k_ ≠ gb949 ∧ k_ ≠ gb955 ∧ k_ ≠ gb966 ∧ k_ ≠ gb982) ho0 (fun k_ hk_ => ⟨(fb BK943 k_ hk_), (fb BK949 k_ hk_), (fb BK955 k_ hk_), (fb BK966 k_ hk_), (fb BK982 k_ hk_)⟩)) (below_size bes)) (bb BK943 hb) (bb BK949 hb) (bb BK955 hb) (bb BK966 hb) (bb BK982 hb) (below_step bes hb) ?_
   clear HO941 HO947 HO953 HO959 HO964 HO970 BK943 BK949 BK955 BK966 BK982 HB
   intro HO941 HO947 HO953 HO959 HO964 HO970 HO975 BK943 BK949 BK955 BK966 BK982 HB
   (try clear hb)
   (try clear hb2)
   (try clear hk)
   (try clear hi)
   (try clear ho0)
   obtain ⟨Ao47, co47, eo47⟩ := Kd.V_slice HO970.out
   (first | subst eo47 | (injection eo47 with f1_ f2_ f3_; have f4_ := f1_.symm; have f5_ := f3_.symm; clear f1_ f2_ f3_; subst f4_; subst f5_))
   obtain ⟨Ao48, co48, eo48⟩ := Kd.V_slice HO975.out
   (first | subst eo48 | (injection eo48 with f1_ f2_ f3_; have f4_ := f1_.symm; have f5_ := f3_.symm; clear f1_ f2_ f3_; subst f4_; subst f5_))
   refine hK.out _ _ ⟨(blk_cell BK955.out 0).trans rfl, (blk_cell BK955.out 1).trans rfl, (blk_cell BK955.out 2).trans rfl, (blk_cell BK943.out 0).trans rfl, (blk_cell BK943.out 1).trans rfl, (blk_cell BK943.out 2).trans rfl, (blk_cell BK949.out 0).trans rfl, (blk_cell BK949.out 1).trans rfl, (blk_cell BK949.out 2).trans rfl⟩ (fun hHeld => ?_)
   clear hK K
   refine norm_ (a' := ?_) ?_ ?_
   rotate_left
   ·
    show Act.put _ (some 30) _ = _
    simp only [Act.put, sa0, sa1, sa2, i64_w, i32_w]
    rfl
   refine one_ (i := 6) (N := some 31) #[true, true, true, true, true, true, true, true, false] rfl rfl (one_of HT_.out (by kernel_rfl)) (by decide) (fun K hK => ?_)
   refine goes_ Tryd.func11 (by kernel_rfl) rfl #[.agg #[.bool t967, .slice Ao47 t968.length co47, .int .i64 t971], .agg #[.bool t972, .slice Ao48 t973.length co48, .int .i64 t976]] (by rfl) rfl rfl ga ?_
   with_reducible refine (dyad_Num_Add.calls k t967 (fun k_ => (k_ ≠ gb943 ∧ (k_ ≠ gb949 ∧ (k_ ≠ gb955 ∧ (k_ ≠ gb966 ∧ k_ ≠ gb982))))) _ _ t968 t971 t972 (fun k_ => (k_ ≠ gb943 ∧ (k_ ≠ gb949 ∧ (k_ ≠ gb955 ∧ (k_ ≠ gb966 ∧ k_ ≠ gb982))))) _ _ t973 t976 t977 t978 t981 _ ?side1 ?side2 ?side3 A13.out).mono ?_
   (case side1 => exact HO970.out)
   (case side2 => exact HO975.out)
   (case side3 => first | exact hT | exact TabW.drewN hT _ | exact TabW.drew hT | exact TabW.below hT bes)
   rintro e w49 ⟨v979, rfl, ho0, hb⟩
   refine ⟨_, rfl, ?_⟩
   refine ax14 (Kd.V_below (kv HO941) hb) (Kd.V_below (kv HO947) hb) (Kd.V_below (kv HO953) hb) (Kd.V_below (kv HO959) hb) (Kd.V_below (kv HO964) hb) (Kd.V_below (kv HO970) hb) (Kd.V_below (kv HO975) hb) (Kd.V_lower (Kd.V_mono (ok' := fun k_ => k_ ≠ gb943 ∧ k_ ≠ gb949 ∧ k_ ≠ gb955 ∧ k_ ≠ gb966 ∧ k_ ≠ gb982) ho0 (fun k_ hk_ => ⟨Or.elim hk_ (fun hs_ => Or.elim hs_ (fun hs_ => hs_.1) (fun hs_ => hs_.1)) (fun hn_ => (fb BK943 k_ hn_)), Or.elim hk_ (fun hs_ => Or.elim hs_ (fun hs_ => hs_.2.1) (fun hs_ => hs_.2.1)) (fun hn_ => (fb BK949 k_ hn_)), Or.elim hk_ (fun hs_ => Or.elim hs_ (fun hs_ => hs_.2.2.1) (fun hs_ => hs_.2.2.1)) (fun hn_ => (fb BK955 k_ hn_)), Or.elim hk_ (fun hs_ => Or.elim hs_ (fun hs_ => hs_.2.2.2.1) (fun hs_ => hs_.2.2.2.1)) (fun hn_ => (fb BK966 k_ hn_)), Or.elim hk_ (fun hs_ => Or.elim hs_ (fun hs_ => hs_.2.2.2.2) (fun hs_ => hs_.2.2.2.2)) (fun hn_ => (fb BK982 k_ hn_))⟩)) (below_size bes)) (bb BK943 hb) (bb BK949 hb) (bb BK955 hb) (bb BK966 hb) (bb BK982 hb) (below_step bes hb) ?_
   clear HO941 HO947 HO953 HO959 HO964 HO970 HO975 BK943 BK949 BK955 BK966 BK982 HB
   intro HO941 HO947 HO953 HO959 HO964 HO970 HO975 HO980 BK943 BK949 BK955 BK966 BK982 HB
   (try clear hb)
   (try clear hb2)
   (try clear hk)
   (try clear hi)
   (try clear ho0)
   refine hK.out _ _ ⟨(blk_cell BK955.out 0).trans rfl, (blk_cell BK955.out 1).trans rfl, (blk_cell BK955.out 2).trans rfl, (blk_cell BK943.out 0).trans rfl, (blk_cell BK943.out 1).trans rfl, (blk_cell BK943.out 2).trans rfl, (blk_cell BK949.out 0).trans rfl, (blk_cell BK949.out 1).trans rfl, (blk_cell BK949.out 2).trans rfl⟩ (fun hHeld => ?_)
   clear hK K
   refine norm_ (a' := ?_) ?_ ?_
   rotate_left
   ·
    show Act.put _ (some 31) _ = _
    simp only [Act.put, sa0, sa1, sa2, i64_w, i32_w]
    rfl
   exact norm_ (by simp only [putAll, Act.put, List.setIfInBounds_toArray, List.set_cons_zero, List.set_cons_succ]) (hCont (.slice Ao47 t968.length co47, .slice Ao48 t973.length co48, v979, gb982) _ ⟨hHeld, (by (with_reducible repeat (first | apply Kd.V_alloc | apply Kd.V_drewN | apply Kd.V_drew)); exact Kd.V_mono HO941.out (fun _ hk => ⟨hk.1.1, ⟨hk.1.2.1, ⟨hk.1.2.2.1, ⟨hk.1.2.2.2, hk.2⟩⟩⟩⟩)), (by (with_reducible repeat (first | apply Kd.V_alloc | apply Kd.V_drewN | apply Kd.V_drew)); exact Kd.V_mono HO947.out (fun _ hk => ⟨hk.1.1, ⟨hk.1.2.1, ⟨hk.1.2.2.1, ⟨hk.1.2.2.2, hk.2⟩⟩⟩⟩)), (by (with_reducible repeat (first | apply Kd.V_alloc | apply Kd.V_drewN | apply Kd.V_drew)); exact Kd.V_mono HO953.out (fun _ hk => ⟨hk.1.1, ⟨hk.1.2.1, ⟨hk.1.2.2.1, ⟨hk.1.2.2.2, hk.2⟩⟩⟩⟩)), (by (with_reducible repeat (first | apply Kd.V_alloc | apply Kd.V_drewN | apply Kd.V_drew)); exact Kd.V_mono HO959.out (fun _ hk => ⟨hk.1.1, ⟨hk.1.2.1, ⟨hk.1.2.2.1, ⟨hk.1.2.2.2, hk.2⟩⟩⟩⟩)), (by (with_reducible repeat (first | apply Kd.V_alloc | apply Kd.V_drewN | apply Kd.V_drew)); exact Kd.V_mono HO964.out (fun _ hk => ⟨hk.1.1, ⟨hk.1.2.1, ⟨hk.1.2.2.1, ⟨hk.1.2.2.2, hk.2⟩⟩⟩⟩)), (kv HO970), (kv HO975), (kv HO980), (kb BK943), (kb BK949), (kb BK955), (kb BK966), (kb BK982), GW982.out, GE982.out, NB943_982.out, NB982_943.out, NB949_982.out, NB982_949.out, NB955_982.out, NB982_955.out, NB966_982.out, NB982_966.out, bes⟩)
 rintro ⟨v969, v974, v979, gb982⟩ w50 ⟨hS_, h0_, h1_, h2_, h3_, h4_, h5_, h6_, h7_, h8_, h9_, h10_, h11_, h12_, h13_, h14_, h15_, h16_, h17_, h18_, h19_, h20_, h21_, h22_, h23_⟩
 have n0_ : Aside0 (Kd.V (Kd.int .u32) 56 w50 w.heap.size (fun k_ => k_ ≠ gb943 ∧ k_ ≠ gb949 ∧ k_ ≠ gb955 ∧ k_ ≠ gb966 ∧ k_ ≠ gb982) (.slice Ao19 t939.length co19) t939) := ⟨h0_⟩
 have n1_ : Aside0 (Kd.V (Kd.int .u32) 56 w50 w.heap.size (fun k_ => k_ ≠ gb943 ∧ k_ ≠ gb949 ∧ k_ ≠ gb955 ∧ k_ ≠ gb966 ∧ k_ ≠ gb982) (.slice Ao24 t945.length co24) t945) := ⟨h1_⟩
 have n2_ : Aside0 (Kd.V (Kd.int .u32) 56 w50 w.heap.size (fun k_ => k_ ≠ gb943 ∧ k_ ≠ gb949 ∧ k_ ≠ gb955 ∧ k_ ≠ gb966 ∧ k_ ≠ gb982) (.slice Ao30 t951.length co30) t951) := ⟨h2_⟩
 have n3_ : Aside0 (Kd.V (Kd.int .u32) 56 w50 w.heap.size (fun k_ => k_ ≠ gb943 ∧ k_ ≠ gb949 ∧ k_ ≠ gb955 ∧ k_ ≠ gb966 ∧ k_ ≠ gb982) v958 t957) := ⟨h3_⟩
 have n4_ : Aside0 (Kd.V (Kd.int .u32) 56 w50 w.heap.size (fun k_ => k_ ≠ gb943 ∧ k_ ≠ gb949 ∧ k_ ≠ gb955 ∧ k_ ≠ gb966 ∧ k_ ≠ gb982) (.slice Ao39 t962.length co39) t962) := ⟨h4_⟩
 have n5_ : Aside0 (Kd.V (Kd.int .u32) 56 w50 w.heap.size (fun k_ => k_ ≠ gb943 ∧ k_ ≠ gb949 ∧ k_ ≠ gb955 ∧ k_ ≠ gb966 ∧ k_ ≠ gb982) v969 t968) := ⟨h5_⟩
 have n6_ : Aside0 (Kd.V (Kd.int .u32) 56 w50 w.heap.size (fun k_ => k_ ≠ gb943 ∧ k_ ≠ gb949 ∧ k_ ≠ gb955 ∧ k_ ≠ gb966 ∧ k_ ≠ gb982) v974 t973) := ⟨h6_⟩
 have n7_ : Aside0 (Kd.V (Kd.int .u32) 56 w50 w.heap.size (fun k_ => k_ ≠ gb943 ∧ k_ ≠ gb949 ∧ k_ ≠ gb955 ∧ k_ ≠ gb966 ∧ k_ ≠ gb982) v979 t978) := ⟨h7_⟩
 have n8_ : Aside0 (w50.heap[gb943]? = some (.cells #[.bool t938, .slice Ao19 t939.length co19, .int .i64 t942] 26 (0, 0))) := ⟨h8_⟩
 have n9_ : Aside0 (w50.heap[gb949]? = some (.cells #[.bool t944, .slice Ao24 t945.length co24, .int .i64 t948] 26 (0, 0))) := ⟨h9_⟩
 have n10_ : Aside0 (w50.heap[gb955]? = some (.cells #[.bool t950, .slice Ao30 t951.length co30, .int .i64 t954] 26 (0, 0))) := ⟨h10_⟩
 have n11_ : Aside0 (w50.heap[gb966]? = some (.cells #[.bool t961, .slice Ao39 t962.length co39, .int .i64 t965] 26 (0, 0))) := ⟨h11_⟩
 have n12_ : Aside0 (w50.heap[gb982]? = some (.cells #[.bool false, .slice none 0 0, .int .i64 0] 26 (0, 0))) := ⟨h12_⟩
 have n13_ : Aside0 (w.heap.size ≤ gb982) := ⟨h13_⟩
 have n14_ : Aside0 (w.heap.size ≤ gb982) := ⟨h14_⟩
 have n15_ : Aside0 (gb943 ≠ gb982) := ⟨h15_⟩
 have n16_ : Aside0 (gb982 ≠ gb943) := ⟨h16_⟩
 have n17_ : Aside0 (gb949 ≠ gb982) := ⟨h17_⟩
 have n18_ : Aside0 (gb982 ≠ gb949) := ⟨h18_⟩
 have n19_ : Aside0 (gb955 ≠ gb982) := ⟨h19_⟩
 have n20_ : Aside0 (gb982 ≠ gb955) := ⟨h20_⟩
 have n21_ : Aside0 (gb966 ≠ gb982) := ⟨h21_⟩
 have n22_ : Aside0 (gb982 ≠ gb966) := ⟨h22_⟩
 have n23_ : Aside0 (Below w.heap.size w w50) := ⟨h23_⟩
 clear HO941 HO947 HO953 HO959 HO964 BK943 BK949 BK955 BK966 HB h0_ h1_ h2_ h3_ h4_ h5_ h6_ h7_ h8_ h9_ h10_ h11_ h12_ h13_ h14_ h15_ h16_ h17_ h18_ h19_ h20_ h21_ h22_ h23_
 have HO941 := n0_
 have HO947 := n1_
 have HO953 := n2_
 have HO959 := n3_
 have HO964 := n4_
 have HO970 := n5_
 have HO975 := n6_
 have HO980 := n7_
 have BK943 := n8_
 have BK949 := n9_
 have BK955 := n10_
 have BK966 := n11_
 have BK982 := n12_
 have GW982 := n13_
 have GE982 := n14_
 have NB943_982 := n15_
 have NB982_943 := n16_
 have NB949_982 := n17_
 have NB982_949 := n18_
 have NB955_982 := n19_
 have NB982_955 := n20_
 have NB966_982 := n21_
 have NB982_966 := n22_
 have HB := n23_
 clear n0_ n1_ n2_ n3_ n4_ n5_ n6_ n7_ n8_ n9_ n10_ n11_ n12_ n13_ n14_ n15_ n16_ n17_ n18_ n19_ n20_ n21_ n22_ n23_
 have hHeld : w50.cell? ⟨gb955, 0, none⟩ = some (.bool t950) ∧ w50.cell? ⟨gb955, 1, none⟩ = some (.slice Ao30 t951.length co30) ∧ w50.cell? ⟨gb955, 2, none⟩ = some (.int .i64 t954) ∧ w50.cell? ⟨gb943, 0, none⟩ = some (.bool t938) ∧ w50.cell? ⟨gb943, 1, none⟩ = some (.slice Ao19 t939.length co19) ∧ w50.cell? ⟨gb943, 2, none⟩ = some (.int .i64 t942) ∧ w50.cell? ⟨gb949, 0, none⟩ = some (.bool t944) ∧ w50.cell? ⟨gb949, 1, none⟩ = some (.slice Ao24 t945.length co24) ∧ w50.cell? ⟨gb949, 2, none⟩ = some (.int .i64 t948) := hS_
 obtain ⟨Ao52, co52, eo52⟩ := Kd.V_slice HO980.out
 (first | subst eo52 | (injection eo52 with f1_ f2_ f3_; have f4_ := f1_.symm; have f5_ := f3_.symm; clear f1_ f2_ f3_; subst f4_; subst f5_))
 refine norm_ (a' := ?_) ?_ ?_
 rotate_left
 ·
  simp only [putAll, Act.put, List.setIfInBounds_toArray, List.set_cons_zero, List.set_cons_succ]
  rfl
 refine one_ (i := 8) (N := none) #[true, true, true, true, true, true, true, true, true] rfl rfl (one_of HT_.out (by kernel_rfl)) (by decide) (fun K hK => ?_)
 have hs51 : w50.cell? ⟨gb982, 0, none⟩ = some (.bool false) := (blk_cell BK982.out 0).trans rfl
 have hfs51 := blk_frozen BK982.out 0
 have hns51_0 := NB943_982.out
 have hns51_1 := NB949_982.out
 have hns51_2 := NB955_982.out
 have hns51_3 := NB966_982.out
 have hms51_0 := NB982_943.out
 have hms51_1 := NB982_949.out
 have hms51_2 := NB982_955.out
 have hms51_3 := NB982_966.out
 have hs53 : w50.cell? ⟨gb982, 1, none⟩ = some (.slice none 0 0) := (blk_cell BK982.out 1).trans rfl
 have hfs53 := blk_frozen BK982.out 1
 have hns53_0 := NB943_982.out
 have hns53_1 := NB949_982.out
 have hns53_2 := NB955_982.out
 have hns53_3 := NB966_982.out
 have hms53_0 := NB982_943.out
 have hms53_1 := NB982_949.out
 have hms53_2 := NB982_955.out
 have hms53_3 := NB982_966.out
 have hs54 : w50.cell? ⟨gb982, 2, none⟩ = some (.int .i64 0) := (blk_cell BK982.out 2).trans rfl
 have hfs54 := blk_frozen BK982.out 2
 have hns54_0 := NB943_982.out
 have hns54_1 := NB949_982.out
 have hns54_2 := NB955_982.out
 have hns54_3 := NB966_982.out
 have hms54_0 := NB982_943.out
 have hms54_1 := NB982_949.out
 have hms54_2 := NB982_955.out
 have hms54_3 := NB982_966.out
 refine skip_ (w1 := ?_) (by rfl) rfl ?_ ?_
 rotate_left
 ·
  go_simp
  rfl
 refine hK.out _ _ ⟨((cell_far (p := ⟨gb982, _, none⟩) NB955_982.out _).trans (((cell_far (p := ⟨gb982, _, none⟩) NB955_982.out _).trans (((cell_far (p := ⟨gb982, _, none⟩) NB955_982.out _).trans (hHeld.1)))))), ((cell_far (p := ⟨gb982, _, none⟩) NB955_982.out _).trans (((cell_far (p := ⟨gb982, _, none⟩) NB955_982.out _).trans (((cell_far (p := ⟨gb982, _, none⟩) NB955_982.out _).trans (hHeld.2.1)))))), ((cell_far (p := ⟨gb982, _, none⟩) NB955_982.out _).trans (((cell_far (p := ⟨gb982, _, none⟩) NB955_982.out _).trans (((cell_far (p := ⟨gb982, _, none⟩) NB955_982.out _).trans (hHeld.2.2.1)))))), ((cell_far (p := ⟨gb982, _, none⟩) NB943_982.out _).trans (((cell_far (p := ⟨gb982, _, none⟩) NB943_982.out _).trans (((cell_far (p := ⟨gb982, _, none⟩) NB943_982.out _).trans (hHeld.2.2.2.1)))))), ((cell_far (p := ⟨gb982, _, none⟩) NB943_982.out _).trans (((cell_far (p := ⟨gb982, _, none⟩) NB943_982.out _).trans (((cell_far (p := ⟨gb982, _, none⟩) NB943_982.out _).trans (hHeld.2.2.2.2.1)))))), ((cell_far (p := ⟨gb982, _, none⟩) NB943_982.out _).trans (((cell_far (p := ⟨gb982, _, none⟩) NB943_982.out _).trans (((cell_far (p := ⟨gb982, _, none⟩) NB943_982.out _).trans (hHeld.2.2.2.2.2.1)))))), ((cell_far (p := ⟨gb982, _, none⟩) NB949_982.out _).trans (((cell_far (p := ⟨gb982, _, none⟩) NB949_982.out _).trans (((cell_far (p := ⟨gb982, _, none⟩) NB949_982.out _).trans (hHeld.2.2.2.2.2.2.1)))))), ((cell_far (p := ⟨gb982, _, none⟩) NB949_982.out _).trans (((cell_far (p := ⟨gb982, _, none⟩) NB949_982.out _).trans (((cell_far (p := ⟨gb982, _, none⟩) NB949_982.out _).trans (hHeld.2.2.2.2.2.2.2.1)))))), ((cell_far (p := ⟨gb982, _, none⟩) NB949_982.out _).trans (((cell_far (p := ⟨gb982, _, none⟩) NB949_982.out _).trans (((cell_far (p := ⟨gb982, _, none⟩) NB949_982.out _).trans (hHeld.2.2.2.2.2.2.2.2))))))⟩ (fun hHeld => ?_)
 clear hK K
 refine done_ (done_of HT_.out (by kernel_rfl)) ?_
 go_upto_region 8 with (fail)
 go_cut [6] (fun v6 wc => ∃ (kq : Nat) (x6_13 : Bool), v6 = .bool x6_13 ∧ Aside0 (gimballaw07_DyadLaws.j0 kq x6_13 = some r) ∧ Aside0 (kq ≤ k) ∧ Aside0 (Kd.V (Kd.int .u32) 56 wc w.heap.size (fun k_ => k_ ≠ gb943 ∧ k_ ≠ gb949 ∧ k_ ≠ gb955 ∧ k_ ≠ gb966 ∧ k_ ≠ gb982) (.slice Ao19 t939.length co19) t939) ∧ Aside0 (Kd.V (Kd.int .u32) 56 wc w.heap.size (fun k_ => k_ ≠ gb943 ∧ k_ ≠ gb949 ∧ k_ ≠ gb955 ∧ k_ ≠ gb966 ∧ k_ ≠ gb982) (.slice Ao24 t945.length co24) t945) ∧ Aside0 (Kd.V (Kd.int .u32) 56 wc w.heap.size (fun k_ => k_ ≠ gb943 ∧ k_ ≠ gb949 ∧ k_ ≠ gb955 ∧ k_ ≠ gb966 ∧ k_ ≠ gb982) (.slice Ao30 t951.length co30) t951) ∧ Aside0 (Kd.V (Kd.int .u32) 56 wc w.heap.size (fun k_ => k_ ≠ gb943 ∧ k_ ≠ gb949 ∧ k_ ≠ gb955 ∧ k_ ≠ gb966 ∧ k_ ≠ gb982) (.slice Ao39 t962.length co39) t962) ∧ Aside0 (Kd.V (Kd.int .u32) 56 wc w.heap.size (fun k_ => k_ ≠ gb943 ∧ k_ ≠ gb949 ∧ k_ ≠ gb955 ∧ k_ ≠ gb966 ∧ k_ ≠ gb982) (.slice Ao52 t978.length co52) t978) ∧ Aside0 (wc.heap[gb943]? = some (.cells #[.bool t938, (.slice Ao19 t939.length co19), .int .i64 t942] 26 (0, 0))) ∧ Aside0 (wc.heap[gb949]? = some (.cells #[.bool t944, (.slice Ao24 t945.length co24), .int .i64 t948] 26 (0, 0))) ∧ Aside0 (wc.heap[gb955]? = some (.cells #[.bool t950, (.slice Ao30 t951.length co30), .int .i64 t954] 26 (0, 0))) ∧ Aside0 (wc.heap[gb966]? = some (.cells #[.bool t961, (.slice Ao39 t962.length co39), .int .i64 t965] 26 (0, 0))) ∧ Aside0 (wc.heap[gb982]? = some (.cells #[.bool t977, (.slice Ao52 t978.length co52), .int .i64 t981] 26 (0, 0))) ∧ Aside0 (Below w.heap.size w wc))
 case first =>
  have H := HC14.out
  clear HC14
  obtain ⟨t983, A550, H⟩ := Option.bind_eq_some_iff.mp H
  (try dsimp -simprocs only at H)
  have A55 := Aside0.mk A550
  clear A550
  by_cases c56 : t983 = true
  rotate_left
  ·
   replace c56 := Bool.eq_false_iff.mpr c56
   subst c56
   rw [if_neg (show ¬ (false = true) by decide)] at H
   rw [hLW] at H
   exact absurd H (by cases k <;> simp [gimballaw07_DyadLaws.j0])
  subst c56
  rw [if_pos rfl] at H
  obtain ⟨⟨t984, t985, t988⟩, A570, H⟩ := Option.bind_eq_some_iff.mp H
  (try dsimp -simprocs only at H)
  have A57 := Aside0.mk A570
  clear A570
  obtain ⟨⟨t989, t990, t993⟩, A580, H⟩ := Option.bind_eq_some_iff.mp H
  (try dsimp -simprocs only at H)
  have A58 := Aside0.mk A580
  clear A580
  obtain ⟨⟨t994, t995, t998⟩, A590, H⟩ := Option.bind_eq_some_iff.mp H
  (try dsimp -simprocs only at H)
  have A59 := Aside0.mk A590
  clear A590
  obtain ⟨⟨t999, t1000, t1003⟩, A600, H⟩ := Option.bind_eq_some_iff.mp H
  (try dsimp -simprocs only at H)
  have A60 := Aside0.mk A600
  clear A600
  obtain ⟨t1004, A610, H⟩ := Option.bind_eq_some_iff.mp H
  (try dsimp -simprocs only at H)
  have A61 := Aside0.mk A610
  clear A610
  by_cases c62 : t1004 = true
  rotate_left
  ·
   replace c62 := Bool.eq_false_iff.mpr c62
   subst c62
   rw [if_neg (show ¬ (false = true) by decide)] at H
   rw [hLW] at H
   exact absurd H (by cases k <;> simp [gimballaw07_DyadLaws.j0])
  subst c62
  rw [if_pos rfl] at H
  obtain ⟨⟨t1005, t1006, t1009⟩, A630, H⟩ := Option.bind_eq_some_iff.mp H
  (try dsimp -simprocs only at H)
  have A63 := Aside0.mk A630
  clear A630
  obtain ⟨⟨t1010, t1011, t1014⟩, A640, H⟩ := Option.bind_eq_some_iff.mp H
  (try dsimp -simprocs only at H)
  have A64 := Aside0.mk A640
  clear A640
  obtain ⟨t1015, A650, H⟩ := Option.bind_eq_some_iff.mp H
  (try dsimp -simprocs only at H)
  have A65 := Aside0.mk A650
  clear A650
  by_cases c66 : t1015 = true
  rotate_left
  ·
   replace c66 := Bool.eq_false_iff.mpr c66
   subst c66
   rw [if_neg (show ¬ (false = true) by decide)] at H
   rw [hLW] at H
   exact absurd H (by cases k <;> simp [gimballaw07_DyadLaws.j0])
  subst c66
  rw [if_pos rfl] at H
  obtain ⟨⟨t1016, t1017, t1020⟩, A670, H⟩ := Option.bind_eq_some_iff.mp H
  (try dsimp -simprocs only at H)
  have A67 := Aside0.mk A670
  clear A670
  obtain ⟨t1021, A680, H⟩ := Option.bind_eq_some_iff.mp H
  (try dsimp -simprocs only at H)
  have A68 := Aside0.mk A680
  clear A680
  by_cases c69 : t1021 = 0
  rotate_left
  ·
   rw [if_neg c69] at H
   have c69b0 : (t1021 == 0) = false := beq_eq_false_iff_ne.mpr c69
   have c69b1 : (t1021 != 0) = true := bne_iff_ne.mpr c69
   (first | rw [c69b0] | (simp only [i64_w, i32_w]; rw [c69b0]) | skip)
   rw [hLW] at H
   exact absurd H (by cases k <;> simp [gimballaw07_DyadLaws.j0])
  rw [if_pos c69] at H
  have c69b0 : (t1021 == 0) = true := beq_iff_eq.mpr c69
  have c69b1 : (t1021 != 0) = false := bne_eq_false_iff_eq.mpr c69
  clear c69
  (first | rw [c69b0] | (simp only [i64_w, i32_w]; rw [c69b0]) | skip)
  obtain ⟨t1022, A700, H⟩ := Option.bind_eq_some_iff.mp H
  (try dsimp -simprocs only at H)
  have A70 := Aside0.mk A700
  clear A700
  obtain ⟨t1023, A710, H⟩ := Option.bind_eq_some_iff.mp H
  (try dsimp -simprocs only at H)
  have A71 := Aside0.mk A710
  clear A710
  by_cases c72 : t1022 = (wrap64 (-t1023))
  rotate_left
  ·
   rw [if_neg c72] at H
   have c72b0 : (t1022 == (wrap64 (-t1023))) = false := beq_eq_false_iff_ne.mpr c72
   have c72b1 : (t1022 != (wrap64 (-t1023))) = true := bne_iff_ne.mpr c72
   rw [hLW] at H
   exact absurd H (by cases k <;> simp [gimballaw07_DyadLaws.j0])
  rw [if_pos c72] at H
  have c72b0 : (t1022 == (wrap64 (-t1023))) = true := beq_iff_eq.mpr c72
  have c72b1 : (t1022 != (wrap64 (-t1023))) = false := bne_eq_false_iff_eq.mpr c72
  clear c72
  obtain ⟨t1024, A730, H⟩ := Option.bind_eq_some_iff.mp H
  (try dsimp -simprocs only at H)
  have A73 := Aside0.mk A730
  clear A730
  obtain ⟨t1025, A740, H⟩ := Option.bind_eq_some_iff.mp H
  (try dsimp -simprocs only at H)
  have A74 := Aside0.mk A740
  clear A740
  by_cases c75 : ((t1024 == 0) == t1025) = true
  rotate_left
  ·
   rw [if_neg c75] at H
   have c75b0 : ((t1024 == 0) == t1025) = false := by simpa using c75
   (try (have c75b1 : decide ((t1024 == 0) = t1025) = false := by simpa using c75))
   (try (have c75b2 : ((t1024 == 0) == t1025) = false := by simpa using c75))
   (try (have c75b3 : ¬ ((t1024 == 0) = t1025) := by simpa using c75))
   clear c75
   rw [hLW] at H
   exact absurd H (by cases k <;> simp [gimballaw07_DyadLaws.j0])
  rw [if_pos c75] at H
  have c75b0 : ((t1024 == 0) == t1025) = true := c75
  (try (have c75b1 : decide ((t1024 == 0) = t1025) = true := by simpa using c75))
  (try (have c75b2 : ((t1024 == 0) == t1025) = true := by simpa using c75))
  clear c75
  obtain ⟨⟨t1026, t1027, t1030⟩, A760, H⟩ := Option.bind_eq_some_iff.mp H
  (try dsimp -simprocs only at H)
  have A76 := Aside0.mk A760
  clear A760
  obtain ⟨t1031, A770, H⟩ := Option.bind_eq_some_iff.mp H
  (try dsimp -simprocs only at H)
  have A77 := Aside0.mk A770
  clear A770
  by_cases c78 : t1031 ≥ 0
  rotate_left
  ·
   rw [if_neg c78] at H
   have c78b0 : decide (0 ≤ t1031) = false := decide_eq_false c78
   clear c78
   rw [hLW] at H
   exact absurd H (by cases k <;> simp [gimballaw07_DyadLaws.j0])
  rw [if_pos c78] at H
  have c78b0 : decide (0 ≤ t1031) = true := decide_eq_true c78
  clear c78
  obtain ⟨⟨t1032, t1033, t1036⟩, A790, H⟩ := Option.bind_eq_some_iff.mp H
  (try dsimp -simprocs only at H)
  have A79 := Aside0.mk A790
  clear A790
  obtain ⟨⟨t1037, t1038, t1041⟩, A800, H⟩ := Option.bind_eq_some_iff.mp H
  (try dsimp -simprocs only at H)
  have A80 := Aside0.mk A800
  clear A800
  obtain ⟨t1042, A810, H⟩ := Option.bind_eq_some_iff.mp H
  (try dsimp -simprocs only at H)
  have A81 := Aside0.mk A810
  clear A810
  by_cases c82 : t1042 = true
  rotate_left
  ·
   replace c82 := Bool.eq_false_iff.mpr c82
   subst c82
   rw [if_neg (show ¬ (false = true) by decide)] at H
   rw [hLW] at H
   exact absurd H (by cases k <;> simp [gimballaw07_DyadLaws.j0])
  subst c82
  rw [if_pos rfl] at H
  obtain ⟨⟨t1043, t1044, t1047⟩, A830, H⟩ := Option.bind_eq_some_iff.mp H
  (try dsimp -simprocs only at H)
  have A83 := Aside0.mk A830
  clear A830
  obtain ⟨t1048, A840, H⟩ := Option.bind_eq_some_iff.mp H
  (try dsimp -simprocs only at H)
  have A84 := Aside0.mk A840
  clear A840
  obtain ⟨t1049, A850, H⟩ := Option.bind_eq_some_iff.mp H
  (try dsimp -simprocs only at H)
  have A85 := Aside0.mk A850
  clear A850
  by_cases c86 : t1048 = (wrap64 (-t1049))
  rotate_left
  ·
   rw [if_neg c86] at H
   have c86b0 : (t1048 == (wrap64 (-t1049))) = false := beq_eq_false_iff_ne.mpr c86
   have c86b1 : (t1048 != (wrap64 (-t1049))) = true := bne_iff_ne.mpr c86
   rw [hLW] at H
   exact absurd H (by cases k <;> simp [gimballaw07_DyadLaws.j0])
  rw [if_pos c86] at H
  have c86b0 : (t1048 == (wrap64 (-t1049))) = true := beq_iff_eq.mpr c86
  have c86b1 : (t1048 != (wrap64 (-t1049))) = false := bne_eq_false_iff_eq.mpr c86
  clear c86
  obtain ⟨⟨t1050, t1051, t1054⟩, A870, H⟩ := Option.bind_eq_some_iff.mp H
  (try dsimp -simprocs only at H)
  have A87 := Aside0.mk A870
  clear A870
  obtain ⟨⟨t1055, t1056, t1059⟩, A880, H⟩ := Option.bind_eq_some_iff.mp H
  (try dsimp -simprocs only at H)
  have A88 := Aside0.mk A880
  clear A880
  obtain ⟨⟨t1060, t1061, t1064⟩, A890, H⟩ := Option.bind_eq_some_iff.mp H
  (try dsimp -simprocs only at H)
  have A89 := Aside0.mk A890
  clear A890
  obtain ⟨t1065, A900, H⟩ := Option.bind_eq_some_iff.mp H
  (try dsimp -simprocs only at H)
  have A90 := Aside0.mk A900
  clear A900
  have H' := Aside0.mk H
  clear H
  try go_wp2
  have n0_ : Aside0 (Kd.V (Kd.int .u32) 56 (((w50.setCell ⟨gb982, 0, none⟩ (.bool t977)).setCell ⟨gb982, 1, none⟩ (.slice Ao52 t978.length co52)).setCell ⟨gb982, 2, none⟩ (.int .i64 t981)) w.heap.size (fun k_ => k_ ≠ gb943 ∧ k_ ≠ gb949 ∧ k_ ≠ gb955 ∧ k_ ≠ gb966 ∧ k_ ≠ gb982) (.slice Ao19 t939.length co19) t939) := ⟨by (with_reducible repeat (first | apply Kd.V_alloc | apply Kd.V_drewN | apply Kd.V_drew)); exact Kd.V_mono (Kd.V_far (p := ⟨gb982, 2, none⟩) (Kd.V_far (p := ⟨gb982, 1, none⟩) (Kd.V_far (p := ⟨gb982, 0, none⟩) (Kd.V_mono HO941.out (fun k_ hk => (⟨hk, hk.2.2.2.2⟩ : _ ∧ k_ ≠ gb982))) (fun _ hk => hk.2) (.bool t977)) (fun _ hk => hk.2) (.slice Ao52 t978.length co52)) (fun _ hk => hk.2) (.int .i64 t981)) (fun _ hk => ⟨hk.1.1, ⟨hk.1.2.1, ⟨hk.1.2.2.1, ⟨hk.1.2.2.2.1, hk.1.2.2.2.2⟩⟩⟩⟩)⟩
  have n1_ : Aside0 (Kd.V (Kd.int .u32) 56 (((w50.setCell ⟨gb982, 0, none⟩ (.bool t977)).setCell ⟨gb982, 1, none⟩ (.slice Ao52 t978.length co52)).setCell ⟨gb982, 2, none⟩ (.int .i64 t981)) w.heap.size (fun k_ => k_ ≠ gb943 ∧ k_ ≠ gb949 ∧ k_ ≠ gb955 ∧ k_ ≠ gb966 ∧ k_ ≠ gb982) (.slice Ao24 t945.length co24) t945) := ⟨by (with_reducible repeat (first | apply Kd.V_alloc | apply Kd.V_drewN | apply Kd.V_drew)); exact Kd.V_mono (Kd.V_far (p := ⟨gb982, 2, none⟩) (Kd.V_far (p := ⟨gb982, 1, none⟩) (Kd.V_far (p := ⟨gb982, 0, none⟩) (Kd.V_mono HO947.out (fun k_ hk => (⟨hk, hk.2.2.2.2⟩ : _ ∧ k_ ≠ gb982))) (fun _ hk => hk.2) (.bool t977)) (fun _ hk => hk.2) (.slice Ao52 t978.length co52)) (fun _ hk => hk.2) (.int .i64 t981)) (fun _ hk => ⟨hk.1.1, ⟨hk.1.2.1, ⟨hk.1.2.2.1, ⟨hk.1.2.2.2.1, hk.1.2.2.2.2⟩⟩⟩⟩)⟩
  have n2_ : Aside0 (Kd.V (Kd.int .u32) 56 (((w50.setCell ⟨gb982, 0, none⟩ (.bool t977)).setCell ⟨gb982, 1, none⟩ (.slice Ao52 t978.length co52)).setCell ⟨gb982, 2, none⟩ (.int .i64 t981)) w.heap.size (fun k_ => k_ ≠ gb943 ∧ k_ ≠ gb949 ∧ k_ ≠ gb955 ∧ k_ ≠ gb966 ∧ k_ ≠ gb982) (.slice Ao30 t951.length co30) t951) := ⟨by (with_reducible repeat (first | apply Kd.V_alloc | apply Kd.V_drewN | apply Kd.V_drew)); exact Kd.V_mono (Kd.V_far (p := ⟨gb982, 2, none⟩) (Kd.V_far (p := ⟨gb982, 1, none⟩) (Kd.V_far (p := ⟨gb982, 0, none⟩) (Kd.V_mono HO953.out (fun k_ hk => (⟨hk, hk.2.2.2.2⟩ : _ ∧ k_ ≠ gb982))) (fun _ hk => hk.2) (.bool t977)) (fun _ hk => hk.2) (.slice Ao52 t978.length co52)) (fun _ hk => hk.2) (.int .i64 t981)) (fun _ hk => ⟨hk.1.1, ⟨hk.1.2.1, ⟨hk.1.2.2.1, ⟨hk.1.2.2.2.1, hk.1.2.2.2.2⟩⟩⟩⟩)⟩
  have n3_ : Aside0 (Kd.V (Kd.int .u32) 56 (((w50.setCell ⟨gb982, 0, none⟩ (.bool t977)).setCell ⟨gb982, 1, none⟩ (.slice Ao52 t978.length co52)).setCell ⟨gb982, 2, none⟩ (.int .i64 t981)) w.heap.size (fun k_ => k_ ≠ gb943 ∧ k_ ≠ gb949 ∧ k_ ≠ gb955 ∧ k_ ≠ gb966 ∧ k_ ≠ gb982) v958 t957) := ⟨by (with_reducible repeat (first | apply Kd.V_alloc | apply Kd.V_drewN | apply Kd.V_drew)); exact Kd.V_mono (Kd.V_far (p := ⟨gb982, 2, none⟩) (Kd.V_far (p := ⟨gb982, 1, none⟩) (Kd.V_far (p := ⟨gb982, 0, none⟩) (Kd.V_mono HO959.out (fun k_ hk => (⟨hk, hk.2.2.2.2⟩ : _ ∧ k_ ≠ gb982))) (fun _ hk => hk.2) (.bool t977)) (fun _ hk => hk.2) (.slice Ao52 t978.length co52)) (fun _ hk => hk.2) (.int .i64 t981)) (fun _ hk => ⟨hk.1.1, ⟨hk.1.2.1, ⟨hk.1.2.2.1, ⟨hk.1.2.2.2.1, hk.1.2.2.2.2⟩⟩⟩⟩)⟩
  have n4_ : Aside0 (Kd.V (Kd.int .u32) 56 (((w50.setCell ⟨gb982, 0, none⟩ (.bool t977)).setCell ⟨gb982, 1, none⟩ (.slice Ao52 t978.length co52)).setCell ⟨gb982, 2, none⟩ (.int .i64 t981)) w.heap.size (fun k_ => k_ ≠ gb943 ∧ k_ ≠ gb949 ∧ k_ ≠ gb955 ∧ k_ ≠ gb966 ∧ k_ ≠ gb982) (.slice Ao39 t962.length co39) t962) := ⟨by (with_reducible repeat (first | apply Kd.V_alloc | apply Kd.V_drewN | apply Kd.V_drew)); exact Kd.V_mono (Kd.V_far (p := ⟨gb982, 2, none⟩) (Kd.V_far (p := ⟨gb982, 1, none⟩) (Kd.V_far (p := ⟨gb982, 0, none⟩) (Kd.V_mono HO964.out (fun k_ hk => (⟨hk, hk.2.2.2.2⟩ : _ ∧ k_ ≠ gb982))) (fun _ hk => hk.2) (.bool t977)) (fun _ hk => hk.2) (.slice Ao52 t978.length co52)) (fun _ hk => hk.2) (.int .i64 t981)) (fun _ hk => ⟨hk.1.1, ⟨hk.1.2.1, ⟨hk.1.2.2.1, ⟨hk.1.2.2.2.1, hk.1.2.2.2.2⟩⟩⟩⟩)⟩
  have n5_ : Aside0 (Kd.V (Kd.int .u32) 56 (((w50.setCell ⟨gb982, 0, none⟩ (.bool t977)).setCell ⟨gb982, 1, none⟩ (.slice Ao52 t978.length co52)).setCell ⟨gb982, 2, none⟩ (.int .i64 t981)) w.heap.size (fun k_ => k_ ≠ gb943 ∧ k_ ≠ gb949 ∧ k_ ≠ gb955 ∧ k_ ≠ gb966 ∧ k_ ≠ gb982) v969 t968) := ⟨by (with_reducible repeat (first | apply Kd.V_alloc | apply Kd.V_drewN | apply Kd.V_drew)); exact Kd.V_mono (Kd.V_far (p := ⟨gb982, 2, none⟩) (Kd.V_far (p := ⟨gb982, 1, none⟩) (Kd.V_far (p := ⟨gb982, 0, none⟩) (Kd.V_mono HO970.out (fun k_ hk => (⟨hk, hk.2.2.2.2⟩ : _ ∧ k_ ≠ gb982))) (fun _ hk => hk.2) (.bool t977)) (fun _ hk => hk.2) (.slice Ao52 t978.length co52)) (fun _ hk => hk.2) (.int .i64 t981)) (fun _ hk => ⟨hk.1.1, ⟨hk.1.2.1, ⟨hk.1.2.2.1, ⟨hk.1.2.2.2.1, hk.1.2.2.2.2⟩⟩⟩⟩)⟩
  have n6_ : Aside0 (Kd.V (Kd.int .u32) 56 (((w50.setCell ⟨gb982, 0, none⟩ (.bool t977)).setCell ⟨gb982, 1, none⟩ (.slice Ao52 t978.length co52)).setCell ⟨gb982, 2, none⟩ (.int .i64 t981)) w.heap.size (fun k_ => k_ ≠ gb943 ∧ k_ ≠ gb949 ∧ k_ ≠ gb955 ∧ k_ ≠ gb966 ∧ k_ ≠ gb982) v974 t973) := ⟨by (with_reducible repeat (first | apply Kd.V_alloc | apply Kd.V_drewN | apply Kd.V_drew)); exact Kd.V_mono (Kd.V_far (p := ⟨gb982, 2, none⟩) (Kd.V_far (p := ⟨gb982, 1, none⟩) (Kd.V_far (p := ⟨gb982, 0, none⟩) (Kd.V_mono HO975.out (fun k_ hk => (⟨hk, hk.2.2.2.2⟩ : _ ∧ k_ ≠ gb982))) (fun _ hk => hk.2) (.bool t977)) (fun _ hk => hk.2) (.slice Ao52 t978.length co52)) (fun _ hk => hk.2) (.int .i64 t981)) (fun _ hk => ⟨hk.1.1, ⟨hk.1.2.1, ⟨hk.1.2.2.1, ⟨hk.1.2.2.2.1, hk.1.2.2.2.2⟩⟩⟩⟩)⟩
  have n7_ : Aside0 (Kd.V (Kd.int .u32) 56 (((w50.setCell ⟨gb982, 0, none⟩ (.bool t977)).setCell ⟨gb982, 1, none⟩ (.slice Ao52 t978.length co52)).setCell ⟨gb982, 2, none⟩ (.int .i64 t981)) w.heap.size (fun k_ => k_ ≠ gb943 ∧ k_ ≠ gb949 ∧ k_ ≠ gb955 ∧ k_ ≠ gb966 ∧ k_ ≠ gb982) (.slice Ao52 t978.length co52) t978) := ⟨by (with_reducible repeat (first | apply Kd.V_alloc | apply Kd.V_drewN | apply Kd.V_drew)); exact Kd.V_mono (Kd.V_far (p := ⟨gb982, 2, none⟩) (Kd.V_far (p := ⟨gb982, 1, none⟩) (Kd.V_far (p := ⟨gb982, 0, none⟩) (Kd.V_mono HO980.out (fun k_ hk => (⟨hk, hk.2.2.2.2⟩ : _ ∧ k_ ≠ gb982))) (fun _ hk => hk.2) (.bool t977)) (fun _ hk => hk.2) (.slice Ao52 t978.length co52)) (fun _ hk => hk.2) (.int .i64 t981)) (fun _ hk => ⟨hk.1.1, ⟨hk.1.2.1, ⟨hk.1.2.2.1, ⟨hk.1.2.2.2.1, hk.1.2.2.2.2⟩⟩⟩⟩)⟩
  have n8_ : Aside0 ((((w50.setCell ⟨gb982, 0, none⟩ (.bool t977)).setCell ⟨gb982, 1, none⟩ (.slice Ao52 t978.length co52)).setCell ⟨gb982, 2, none⟩ (.int .i64 t981)).heap[gb943]? = some (.cells #[.bool t938, .slice Ao19 t939.length co19, .int .i64 t942] 26 (0, 0))) := ⟨by (with_reducible repeat (first | refine blk_drewN ?_ _ | refine blk_drew ?_ | refine blk_alloc ?_ _)); refine blk_far ?_ NB943_982.out _; (with_reducible repeat (first | refine blk_drewN ?_ _ | refine blk_drew ?_ | refine blk_alloc ?_ _)); refine blk_far ?_ NB943_982.out _; (with_reducible repeat (first | refine blk_drewN ?_ _ | refine blk_drew ?_ | refine blk_alloc ?_ _)); refine blk_far ?_ NB943_982.out _; (with_reducible repeat (first | refine blk_drewN ?_ _ | refine blk_drew ?_ | refine blk_alloc ?_ _)); exact BK943.out⟩
  have n9_ : Aside0 ((((w50.setCell ⟨gb982, 0, none⟩ (.bool t977)).setCell ⟨gb982, 1, none⟩ (.slice Ao52 t978.length co52)).setCell ⟨gb982, 2, none⟩ (.int .i64 t981)).heap[gb949]? = some (.cells #[.bool t944, .slice Ao24 t945.length co24, .int .i64 t948] 26 (0, 0))) := ⟨by (with_reducible repeat (first | refine blk_drewN ?_ _ | refine blk_drew ?_ | refine blk_alloc ?_ _)); refine blk_far ?_ NB949_982.out _; (with_reducible repeat (first | refine blk_drewN ?_ _ | refine blk_drew ?_ | refine blk_alloc ?_ _)); refine blk_far ?_ NB949_982.out _; (with_reducible repeat (first | refine blk_drewN ?_ _ | refine blk_drew ?_ | refine blk_alloc ?_ _)); refine blk_far ?_ NB949_982.out _; (with_reducible repeat (first | refine blk_drewN ?_ _ | refine blk_drew ?_ | refine blk_alloc ?_ _)); exact BK949.out⟩
  have n10_ : Aside0 ((((w50.setCell ⟨gb982, 0, none⟩ (.bool t977)).setCell ⟨gb982, 1, none⟩ (.slice Ao52 t978.length co52)).setCell ⟨gb982, 2, none⟩ (.int .i64 t981)).heap[gb955]? = some (.cells #[.bool t950, .slice Ao30 t951.length co30, .int .i64 t954] 26 (0, 0))) := ⟨by (with_reducible repeat (first | refine blk_drewN ?_ _ | refine blk_drew ?_ | refine blk_alloc ?_ _)); refine blk_far ?_ NB955_982.out _; (with_reducible repeat (first | refine blk_drewN ?_ _ | refine blk_drew ?_ | refine blk_alloc ?_ _)); refine blk_far ?_ NB955_982.out _; (with_reducible repeat (first | refine blk_drewN ?_ _ | refine blk_drew ?_ | refine blk_alloc ?_ _)); refine blk_far ?_ NB955_982.out _; (with_reducible repeat (first | refine blk_drewN ?_ _ | refine blk_drew ?_ | refine blk_alloc ?_ _)); exact BK955.out⟩
  have n11_ : Aside0 ((((w50.setCell ⟨gb982, 0, none⟩ (.bool t977)).setCell ⟨gb982, 1, none⟩ (.slice Ao52 t978.length co52)).setCell ⟨gb982, 2, none⟩ (.int .i64 t981)).heap[gb966]? = some (.cells #[.bool t961, .slice Ao39 t962.length co39, .int .i64 t965] 26 (0, 0))) := ⟨by (with_reducible repeat (first | refine blk_drewN ?_ _ | refine blk_drew ?_ | refine blk_alloc ?_ _)); refine blk_far ?_ NB966_982.out _; (with_reducible repeat (first | refine blk_drewN ?_ _ | refine blk_drew ?_ | refine blk_alloc ?_ _)); refine blk_far ?_ NB966_982.out _; (with_reducible repeat (first | refine blk_drewN ?_ _ | refine blk_drew ?_ | refine blk_alloc ?_ _)); refine blk_far ?_ NB966_982.out _; (with_reducible repeat (first | refine blk_drewN ?_ _ | refine blk_drew ?_ | refine blk_alloc ?_ _)); exact BK966.out⟩
  have n12_ : Aside0 ((((w50.setCell ⟨gb982, 0, none⟩ (.bool t977)).setCell ⟨gb982, 1, none⟩ (.slice Ao52 t978.length co52)).setCell ⟨gb982, 2, none⟩ (.int .i64 t981)).heap[gb982]? = some (.cells #[.bool t977, .slice Ao52 t978.length co52, .int .i64 t981] 26 (0, 0))) := ⟨by (with_reducible repeat (first | refine blk_drewN ?_ _ | refine blk_drew ?_ | refine blk_alloc ?_ _)); refine blk_put (cs := #[.bool t977, .slice Ao52 t978.length co52, .int .i64 0]) ?_ 2 _ rfl; (with_reducible repeat (first | refine blk_drewN ?_ _ | refine blk_drew ?_ | refine blk_alloc ?_ _)); refine blk_put (cs := #[.bool t977, .slice none 0 0, .int .i64 0]) ?_ 1 _ rfl; (with_reducible repeat (first | refine blk_drewN ?_ _ | refine blk_drew ?_ | refine blk_alloc ?_ _)); refine blk_put (cs := #[.bool false, .slice none 0 0, .int .i64 0]) ?_ 0 _ rfl; (with_reducible repeat (first | refine blk_drewN ?_ _ | refine blk_drew ?_ | refine blk_alloc ?_ _)); exact BK982.out⟩
  have n13_ : Aside0 (Below w.heap.size w (((w50.setCell ⟨gb982, 0, none⟩ (.bool t977)).setCell ⟨gb982, 1, none⟩ (.slice Ao52 t978.length co52)).setCell ⟨gb982, 2, none⟩ (.int .i64 t981))) := ⟨bes⟩
  (try clear HO941)
  (try clear HO947)
  (try clear HO953)
  (try clear HO959)
  (try clear HO964)
  (try clear HO970)
  (try clear HO975)
  (try clear HO980)
  (try clear BK943)
  (try clear BK949)
  (try clear BK955)
  (try clear BK966)
  (try clear BK982)
  (try clear HB)
  generalize (((w50.setCell ⟨gb982, 0, none⟩ (.bool t977)).setCell ⟨gb982, 1, none⟩ (.slice Ao52 t978.length co52)).setCell ⟨gb982, 2, none⟩ (.int .i64 t981)) = w91 at n0_ n1_ n2_ n3_ n4_ n5_ n6_ n7_ n8_ n9_ n10_ n11_ n12_ n13_ ⊢
  have HO941 := n0_
  have HO947 := n1_
  have HO953 := n2_
  have HO959 := n3_
  have HO964 := n4_
  have HO970 := n5_
  have HO975 := n6_
  have HO980 := n7_
  have BK943 := n8_
  have BK949 := n9_
  have BK955 := n10_
  have BK966 := n11_
  have BK982 := n12_
  have HB := n13_
  clear n0_ n1_ n2_ n3_ n4_ n5_ n6_ n7_ n8_ n9_ n10_ n11_ n12_ n13_
  refine ax14 (Kd.V_drew HO941.out) (Kd.V_drew HO947.out) (Kd.V_drew HO953.out) (Kd.V_drew HO959.out) (Kd.V_drew HO964.out) (Kd.V_drew HO970.out) (Kd.V_drew HO975.out) (Kd.V_drew HO980.out) (blk_drew BK943.out) (blk_drew BK949.out) (blk_drew BK955.out) (blk_drew BK966.out) (blk_drew BK982.out) (below_drew1 HB.out) ?_
  clear HO941 HO947 HO953 HO959 HO964 HO970 HO975 HO980 BK943 BK949 BK955 BK966 BK982 HB
  intro HO941 HO947 HO953 HO959 HO964 HO970 HO975 HO980 BK943 BK949 BK955 BK966 BK982 HB
  refine start_ (n := 84) (S := fun w' => w'.cell? ⟨gb966, 0, none⟩ = some (.bool t961) ∧ w'.cell? ⟨gb966, 1, none⟩ = some (.slice Ao39 t962.length co39) ∧ w'.cell? ⟨gb966, 2, none⟩ = some (.int .i64 t965) ∧ w'.cell? ⟨gb982, 0, none⟩ = some (.bool t977) ∧ w'.cell? ⟨gb982, 1, none⟩ = some (.slice Ao52 t978.length co52) ∧ w'.cell? ⟨gb982, 2, none⟩ = some (.int .i64 t981) ∧ w'.cell? ⟨gb943, 0, none⟩ = some (.bool t938) ∧ w'.cell? ⟨gb943, 1, none⟩ = some (.slice Ao19 t939.length co19) ∧ w'.cell? ⟨gb943, 2, none⟩ = some (.int .i64 t942) ∧ w'.cell? ⟨gb949, 0, none⟩ = some (.bool t944) ∧ w'.cell? ⟨gb949, 1, none⟩ = some (.slice Ao24 t945.length co24) ∧ w'.cell? ⟨gb949, 2, none⟩ = some (.int .i64 t948) ∧ w'.cell? ⟨gb955, 0, none⟩ = some (.bool t950) ∧ w'.cell? ⟨gb955, 1, none⟩ = some (.slice Ao30 t951.length co30) ∧ w'.cell? ⟨gb955, 2, none⟩ = some (.int .i64 t954)) (ds := []) #[false, false, false, false, false, false, false, false, false, false, false, false, false, false, false, false, false, false, false, false, false, false, false, false, false, false, false, false, false, false, false, false, false, false, false, false, false, false, false, false, false, false, false, false, false, false, false, false, false, false, false, false, false, false, false, false, false, false, false, false, false, false, false, false, false, false, false, false, false, false, false, false, false, false, false, false, false, false, false, false, false, false, false, false] (by kernel_rfl) rfl rfl ⟨(blk_cell BK966.out 0).trans rfl, (blk_cell BK966.out 1).trans rfl, (blk_cell BK966.out 2).trans rfl, (blk_cell BK982.out 0).trans rfl, (blk_cell BK982.out 1).trans rfl, (blk_cell BK982.out 2).trans rfl, (blk_cell BK943.out 0).trans rfl, (blk_cell BK943.out 1).trans rfl, (blk_cell BK943.out 2).trans rfl, (blk_cell BK949.out 0).trans rfl, (blk_cell BK949.out 1).trans rfl, (blk_cell BK949.out 2).trans rfl, (blk_cell BK955.out 0).trans rfl, (blk_cell BK955.out 1).trans rfl, (blk_cell BK955.out 2).trans rfl⟩ (fun hHeld => ?_); refine with_tabW gimballaw07_DyadLaws.tab8 gimballaw07_DyadLaws.bits8 (fun HT_ HW_ => ?_)
  generalize w91.drew = w92 at HO941 HO947 HO953 HO959 HO964 HO970 HO975 HO980 BK943 BK949 BK955 BK966 BK982 HB hHeld ⊢
  refine take_ (i := 0) (N := some 32) (v := ?_) (a' := ?_) #[true, false, false, false, false, false, false, false, false, false, false, false, false, false, false, false, false, false, false, false, false, false, false, false, false, false, false, false, false, false, false, false, false, false, false, false, false, false, false, false, false, false, false, false, false, false, false, false, false, false, false, false, false, false, false, false, false, false, false, false, false, false, false, false, false, false, false, false, false, false, false, false, false, false, false, false, false, false, false, false, false, false, false, false] rfl rfl (take_ofW HT_.out HW_.out (by kernel_rfl)) (fun _ _ _ h => h) (Or.inl ⟨by rfl, ?_⟩) hHeld ?_ ?_
  rotate_left
  ·
   rintro w' ⟨s0, s1, s2, s3, s4, s5, s6, s7, s8, s9, s10, s11, s12, s13, s14⟩
   go_simp
   with_reducible rfl
  rotate_left
  ·
   simp only [Act.put, sa0, sa1, sa2, i64_w, i32_w]
   rfl
  refine take_ (i := 1) (N := some 33) (v := ?_) (a' := ?_) #[true, true, false, false, false, false, false, false, false, false, false, false, false, false, false, false, false, false, false, false, false, false, false, false, false, false, false, false, false, false, false, false, false, false, false, false, false, false, false, false, false, false, false, false, false, false, false, false, false, false, false, false, false, false, false, false, false, false, false, false, false, false, false, false, false, false, false, false, false, false, false, false, false, false, false, false, false, false, false, false, false, false, false, false] rfl rfl (take_ofW HT_.out HW_.out (by kernel_rfl)) (fun _ _ _ h => h) (Or.inl ⟨by rfl, ?_⟩) hHeld ?_ ?_
  rotate_left
  ·
   rintro w' ⟨s0, s1, s2, s3, s4, s5, s6, s7, s8, s9, s10, s11, s12, s13, s14⟩
   go_simp
   with_reducible rfl
  rotate_left
  ·
   simp only [Act.put, sa0, sa1, sa2, i64_w, i32_w]
   rfl
  refine one_ (i := 2) (N := some 34) #[true, true, true, false, false, false, false, false, false, false, false, false, false, false, false, false, false, false, false, false, false, false, false, false, false, false, false, false, false, false, false, false, false, false, false, false, false, false, false, false, false, false, false, false, false, false, false, false, false, false, false, false, false, false, false, false, false, false, false, false, false, false, false, false, false, false, false, false, false, false, false, false, false, false, false, false, false, false, false, false, false, false, false, false] rfl rfl (one_of HT_.out (by kernel_rfl)) (by decide) (fun K hK => ?_)
  refine goes_ Tryd.func28 (by kernel_rfl) rfl #[.agg #[.bool t961, .slice Ao39 t962.length co39, .int .i64 t965], .agg #[.bool t977, .slice Ao52 t978.length co52, .int .i64 t981]] (by rfl) rfl rfl ga ?_
  with_reducible refine (dyad_Num_Same.calls k t961 _ _ t962 t965 t977 _ _ t978 t981 true _ ?side1 ?side2 ?side3 ?side4 A55.out).mono ?_
  (case side1 => exact kvs HO964)
  (case side2 => exact (Kd.V_reads' HO964.out).2.1)
  (case side3 => exact kvs HO980)
  (case side4 => exact (Kd.V_reads' HO980.out).2.1)
  rintro e w93 ⟨rfl, hb⟩
  refine ⟨_, rfl, ?_⟩
  refine ax14 (Kd.V_below (kv HO941) hb) (Kd.V_below (kv HO947) hb) (Kd.V_below (kv HO953) hb) (Kd.V_below (kv HO959) hb) (Kd.V_below (kv HO964) hb) (Kd.V_below (kv HO970) hb) (Kd.V_below (kv HO975) hb) (Kd.V_below (kv HO980) hb) (bb BK943 hb) (bb BK949 hb) (bb BK955 hb) (bb BK966 hb) (bb BK982 hb) (below_step bes hb) ?_
  clear HO941 HO947 HO953 HO959 HO964 HO970 HO975 HO980 BK943 BK949 BK955 BK966 BK982 HB
  intro HO941 HO947 HO953 HO959 HO964 HO970 HO975 HO980 BK943 BK949 BK955 BK966 BK982 HB
  (try clear hb)
  (try clear hb2)
  (try clear hk)
  (try clear hi)
  refine hK.out _ _ ⟨(blk_cell BK966.out 0).trans rfl, (blk_cell BK966.out 1).trans rfl, (blk_cell BK966.out 2).trans rfl, (blk_cell BK982.out 0).trans rfl, (blk_cell BK982.out 1).trans rfl, (blk_cell BK982.out 2).trans rfl, (blk_cell BK943.out 0).trans rfl, (blk_cell BK943.out 1).trans rfl, (blk_cell BK943.out 2).trans rfl, (blk_cell BK949.out 0).trans rfl, (blk_cell BK949.out 1).trans rfl, (blk_cell BK949.out 2).trans rfl, (blk_cell BK955.out 0).trans rfl, (blk_cell BK955.out 1).trans rfl, (blk_cell BK955.out 2).trans rfl⟩ (fun hHeld => ?_)
  clear hK K
  refine norm_ (a' := ?_) ?_ ?_
  rotate_left
  ·
   show Act.put _ (some 34) _ = _
   simp only [Act.put, sa0, sa1, sa2, i64_w, i32_w]
   rfl
  refine pure_ (i := 3) (N := some 35) (v := ?_) (a' := ?_) #[true, true, true, true, false, false, false, false, false, false, false, false, false, false, false, false, false, false, false, false, false, false, false, false, false, false, false, false, false, false, false, false, false, false, false, false, false, false, false, false, false, false, false, false, false, false, false, false, false, false, false, false, false, false, false, false, false, false, false, false, false, false, false, false, false, false, false, false, false, false, false, false, false, false, false, false, false, false, false, false, false, false, false, false] rfl rfl (any_of HT_.out (by kernel_rfl)) (fun _ _ _ h => h) (Or.inl ⟨by rfl, ?_⟩) ?_ ?_
  rotate_left
  ·
   intro w'
   go_simp
   with_reducible rfl
  rotate_left
  ·
   simp only [Act.put, sa0, sa1, sa2, i64_w, i32_w]
   rfl
  refine take_ (i := 4) (N := some 36) (v := ?_) (a' := ?_) #[true, true, true, true, true, false, false, false, false, false, false, false, false, false, false, false, false, false, false, false, false, false, false, false, false, false, false, false, false, false, false, false, false, false, false, false, false, false, false, false, false, false, false, false, false, false, false, false, false, false, false, false, false, false, false, false, false, false, false, false, false, false, false, false, false, false, false, false, false, false, false, false, false, false, false, false, false, false, false, false, false, false, false, false] rfl rfl (take_ofW HT_.out HW_.out (by kernel_rfl)) (fun _ _ _ h => h) (Or.inl ⟨by rfl, ?_⟩) hHeld ?_ ?_
  rotate_left
  ·
   rintro w' ⟨s0, s1, s2, s3, s4, s5, s6, s7, s8, s9, s10, s11, s12, s13, s14⟩
   go_simp
   with_reducible rfl
  rotate_left
  ·
   simp only [Act.put, sa0, sa1, sa2, i64_w, i32_w]
   rfl
  refine take_ (i := 5) (N := some 37) (v := ?_) (a' := ?_) #[true, true, true, true, true, true, false, false, false, false, false, false, false, false, false, false, false, false, false, false, false, false, false, false, false, false, false, false, false, false, false, false, false, false, false, false, false, false, false, false, false, false, false, false, false, false, false, false, false, false, false, false, false, false, false, false, false, false, false, false, false, false, false, false, false, false, false, false, false, false, false, false, false, false, false, false, false, false, false, false, false, false, false, false] rfl rfl (take_ofW HT_.out HW_.out (by kernel_rfl)) (fun _ _ _ h => h) (Or.inl ⟨by rfl, ?_⟩) hHeld ?_ ?_
  rotate_left
  ·
   rintro w' ⟨s0, s1, s2, s3, s4, s5, s6, s7, s8, s9, s10, s11, s12, s13, s14⟩
   go_simp
   with_reducible rfl
  rotate_left
  ·
   simp only [Act.put, sa0, sa1, sa2, i64_w, i32_w]
   rfl
  refine take_ (i := 7) (N := some 39) (v := ?_) (a' := ?_) #[true, true, true, true, true, true, false, true, false, false, false, false, false, false, false, false, false, false, false, false, false, false, false, false, false, false, false, false, false, false, false, false, false, false, false, false, false, false, false, false, false, false, false, false, false, false, false, false, false, false, false, false, false, false, false, false, false, false, false, false, false, false, false, false, false, false, false, false, false, false, false, false, false, false, false, false, false, false, false, false, false, false, false, false] rfl rfl (take_ofW HT_.out HW_.out (by kernel_rfl)) (fun _ _ _ h => h) (Or.inl ⟨by rfl, ?_⟩) hHeld ?_ ?_
  rotate_left
  ·
   rintro w' ⟨s0, s1, s2, s3, s4, s5, s6, s7, s8, s9, s10, s11, s12, s13, s14⟩
   go_simp
   with_reducible rfl
  rotate_left
  ·
   simp only [Act.put, sa0, sa1, sa2, i64_w, i32_w]
   rfl
  refine take_ (i := 9) (N := some 41) (v := ?_) (a' := ?_) #[true, true, true, true, true, true, false, true, false, true, false, false, false, false, false, false, false, false, false, false, false, false, false, false, false, false, false, false, false, false, false, false, false, false, false, false, false, false, false, false, false, false, false, false, false, false, false, false, false, false, false, false, false, false, false, false, false, false, false, false, false, false, false, false, false, false, false, false, false, false, false, false, false, false, false, false, false, false, false, false, false, false, false, false] rfl rfl (take_ofW HT_.out HW_.out (by kernel_rfl)) (fun _ _ _ h => h) (Or.inl ⟨by rfl, ?_⟩) hHeld ?_ ?_
  rotate_left
  ·
   rintro w' ⟨s0, s1, s2, s3, s4, s5, s6, s7, s8, s9, s10, s11, s12, s13, s14⟩
   go_simp
   with_reducible rfl
  rotate_left
  ·
   simp only [Act.put, sa0, sa1, sa2, i64_w, i32_w]
   rfl
  refine take_ (i := 10) (N := some 42) (v := ?_) (a' := ?_) #[true, true, true, true, true, true, false, true, false, true, true, false, false, false, false, false, false, false, false, false, false, false, false, false, false, false, false, false, false, false, false, false, false, false, false, false, false, false, false, false, false, false, false, false, false, false, false, false, false, false, false, false, false, false, false, false, false, false, false, false, false, false, false, false, false, false, false, false, false, false, false, false, false, false, false, false, false, false, false, false, false, false, false, false] rfl rfl (take_ofW HT_.out HW_.out (by kernel_rfl)) (fun _ _ _ h => h) (Or.inl ⟨by rfl, ?_⟩) hHeld ?_ ?_
  rotate_left
  ·
   rintro w' ⟨s0, s1, s2, s3, s4, s5, s6, s7, s8, s9, s10, s11, s12, s13, s14⟩
   go_simp
   with_reducible rfl
  rotate_left
  ·
   simp only [Act.put, sa0, sa1, sa2, i64_w, i32_w]
   rfl
  refine take_ (i := 11) (N := some 43) (v := ?_) (a' := ?_) #[true, true, true, true, true, true, false, true, false, true, true, true, false, false, false, false, false, false, false, false, false, false, false, false, false, false, false, false, false, false, false, false, false, false, false, false, false, false, false, false, false, false, false, false, false, false, false, false, false, false, false, false, false, false, false, false, false, false, false, false, false, false, false, false, false, false, false, false, false, false, false, false, false, false, false, false, false, false, false, false, false, false, false, false] rfl rfl (take_ofW HT_.out HW_.out (by kernel_rfl)) (fun _ _ _ h => h) (Or.inl ⟨by rfl, ?_⟩) hHeld ?_ ?_
  rotate_left
  ·
   rintro w' ⟨s0, s1, s2, s3, s4, s5, s6, s7, s8, s9, s10, s11, s12, s13, s14⟩
   go_simp
   with_reducible rfl
  rotate_left
  ·
   simp only [Act.put, sa0, sa1, sa2, i64_w, i32_w]
   rfl
  refine one_ (i := 6) (N := some 38) #[true, true, true, true, true, true, true, true, false, true, true, true, false, false, false, false, false, false, false, false, false, false, false, false, false, false, false, false, false, false, false, false, false, false, false, false, false, false, false, false, false, false, false, false, false, false, false, false, false, false, false, false, false, false, false, false, false, false, false, false, false, false, false, false, false, false, false, false, false, false, false, false, false, false, false, false, false, false, false, false, false, false, false, false] rfl rfl (one_of HT_.out (by kernel_rfl)) (by decide) (fun K hK => ?_)
  refine goes_ Tryd.func11 (by kernel_rfl) rfl #[.agg #[.bool t938, .slice Ao19 t939.length co19, .int .i64 t942], .agg #[.bool t944, .slice Ao24 t945.length co24, .int .i64 t948]] (by rfl) rfl rfl ga ?_
  with_reducible refine (dyad_Num_Add.calls k t938 (fun k_ => (k_ ≠ gb943 ∧ (k_ ≠ gb949 ∧ (k_ ≠ gb955 ∧ (k_ ≠ gb966 ∧ k_ ≠ gb982))))) _ _ t939 t942 t944 (fun k_ => (k_ ≠ gb943 ∧ (k_ ≠ gb949 ∧ (k_ ≠ gb955 ∧ (k_ ≠ gb966 ∧ k_ ≠ gb982))))) _ _ t945 t948 t984 t985 t988 _ ?side1 ?side2 ?side3 A57.out).mono ?_
  (case side1 => exact HO941.out)
  (case side2 => exact HO947.out)
  (case side3 => first | exact hT | exact TabW.drewN hT _ | exact TabW.drew hT | exact TabW.below hT bes)
  rintro e w94 ⟨v986, rfl, ho0, hb⟩
  refine ⟨_, rfl, ?_⟩
  refine ax15 (Kd.V_below (kv HO941) hb) (Kd.V_below (kv HO947) hb) (Kd.V_below (kv HO953) hb) (Kd.V_below (kv HO959) hb) (Kd.V_below (kv HO964) hb) (Kd.V_below (kv HO970) hb) (Kd.V_below (kv HO975) hb) (Kd.V_below (kv HO980) hb) (Kd.V_lower (Kd.V_mono (ok' := fun k_ => k_ ≠ gb943 ∧ k_ ≠ gb949 ∧ k_ ≠ gb955 ∧ k_ ≠ gb966 ∧ k_ ≠ gb982) ho0 (fun k_ hk_ => ⟨Or.elim hk_ (fun hs_ => Or.elim hs_ (fun hs_ => hs_.1) (fun hs_ => hs_.1)) (fun hn_ => (fb BK943 k_ hn_)), Or.elim hk_ (fun hs_ => Or.elim hs_ (fun hs_ => hs_.2.1) (fun hs_ => hs_.2.1)) (fun hn_ => (fb BK949 k_ hn_)), Or.elim hk_ (fun hs_ => Or.elim hs_ (fun hs_ => hs_.2.2.1) (fun hs_ => hs_.2.2.1)) (fun hn_ => (fb BK955 k_ hn_)), Or.elim hk_ (fun hs_ => Or.elim hs_ (fun hs_ => hs_.2.2.2.1) (fun hs_ => hs_.2.2.2.1)) (fun hn_ => (fb BK966 k_ hn_)), Or.elim hk_ (fun hs_ => Or.elim hs_ (fun hs_ => hs_.2.2.2.2) (fun hs_ => hs_.2.2.2.2)) (fun hn_ => (fb BK982 k_ hn_))⟩)) (below_size bes)) (bb BK943 hb) (bb BK949 hb) (bb BK955 hb) (bb BK966 hb) (bb BK982 hb) (below_step bes hb) ?_
  clear HO941 HO947 HO953 HO959 HO964 HO970 HO975 HO980 BK943 BK949 BK955 BK966 BK982 HB
  intro HO941 HO947 HO953 HO959 HO964 HO970 HO975 HO980 HO987 BK943 BK949 BK955 BK966 BK982 HB
  (try clear hb)
  (try clear hb2)
  (try clear hk)
  (try clear hi)
  (try clear ho0)
  obtain ⟨Ao95, co95, eo95⟩ := Kd.V_slice HO987.out
  (first | subst eo95 | (injection eo95 with f1_ f2_ f3_; have f4_ := f1_.symm; have f5_ := f3_.symm; clear f1_ f2_ f3_; subst f4_; subst f5_))
  refine hK.out _ _ ⟨(blk_cell BK966.out 0).trans rfl, (blk_cell BK966.out 1).trans rfl, (blk_cell BK966.out 2).trans rfl, (blk_cell BK982.out 0).trans rfl, (blk_cell BK982.out 1).trans rfl, (blk_cell BK982.out 2).trans rfl, (blk_cell BK943.out 0).trans rfl, (blk_cell BK943.out 1).trans rfl, (blk_cell BK943.out 2).trans rfl, (blk_cell BK949.out 0).trans rfl, (blk_cell BK949.out 1).trans rfl, (blk_cell BK949.out 2).trans rfl, (blk_cell BK955.out 0).trans rfl, (blk_cell BK955.out 1).trans rfl, (blk_cell BK955.out 2).trans rfl⟩ (fun hHeld => ?_)
  clear hK K
  refine norm_ (a' := ?_) ?_ ?_
  rotate_left
  ·
   show Act.put _ (some 38) _ = _
   simp only [Act.put, sa0, sa1, sa2, i64_w, i32_w]
   rfl
  refine one_ (i := 8) (N := some 40) #[true, true, true, true, true, true, true, true, true, true, true, true, false, false, false, false, false, false, false, false, false, false, false, false, false, false, false, false, false, false, false, false, false, false, false, false, false, false, false, false, false, false, false, false, false, false, false, false, false, false, false, false, false, false, false, false, false, false, false, false, false, false, false, false, false, false, false, false, false, false, false, false, false, false, false, false, false, false, false, false, false, false, false, false] rfl rfl (one_of HT_.out (by kernel_rfl)) (by decide) (fun K hK => ?_)
  refine goes_ Tryd.func11 (by kernel_rfl) rfl #[.agg #[.bool t984, .slice Ao95 t985.length co95, .int .i64 t988], .agg #[.bool t950, .slice Ao30 t951.length co30, .int .i64 t954]] (by rfl) rfl rfl ga ?_
  with_reducible refine (dyad_Num_Add.calls k t984 (fun k_ => (k_ ≠ gb943 ∧ (k_ ≠ gb949 ∧ (k_ ≠ gb955 ∧ (k_ ≠ gb966 ∧ k_ ≠ gb982))))) _ _ t985 t988 t950 (fun k_ => (k_ ≠ gb943 ∧ (k_ ≠ gb949 ∧ (k_ ≠ gb955 ∧ (k_ ≠ gb966 ∧ k_ ≠ gb982))))) _ _ t951 t954 t989 t990 t993 _ ?side1 ?side2 ?side3 A58.out).mono ?_
  (case side1 => exact HO987.out)
  (case side2 => exact HO953.out)
  (case side3 => first | exact hT | exact TabW.drewN hT _ | exact TabW.drew hT | exact TabW.below hT bes)
  rintro e w96 ⟨v991, rfl, ho0, hb⟩
  refine ⟨_, rfl, ?_⟩
  refine ax16 (Kd.V_below (kv HO941) hb) (Kd.V_below (kv HO947) hb) (Kd.V_below (kv HO953) hb) (Kd.V_below (kv HO959) hb) (Kd.V_below (kv HO964) hb) (Kd.V_below (kv HO970) hb) (Kd.V_below (kv HO975) hb) (Kd.V_below (kv HO980) hb) (Kd.V_below (kv HO987) hb) (Kd.V_lower (Kd.V_mono (ok' := fun k_ => k_ ≠ gb943 ∧ k_ ≠ gb949 ∧ k_ ≠ gb955 ∧ k_ ≠ gb966 ∧ k_ ≠ gb982) ho0 (fun k_ hk_ => ⟨Or.elim hk_ (fun hs_ => Or.elim hs_ (fun hs_ => hs_.1) (fun hs_ => hs_.1)) (fun hn_ => (fb BK943 k_ hn_)), Or.elim hk_ (fun hs_ => Or.elim hs_ (fun hs_ => hs_.2.1) (fun hs_ => hs_.2.1)) (fun hn_ => (fb BK949 k_ hn_)), Or.elim hk_ (fun hs_ => Or.elim hs_ (fun hs_ => hs_.2.2.1) (fun hs_ => hs_.2.2.1)) (fun hn_ => (fb BK955 k_ hn_)), Or.elim hk_ (fun hs_ => Or.elim hs_ (fun hs_ => hs_.2.2.2.1) (fun hs_ => hs_.2.2.2.1)) (fun hn_ => (fb BK966 k_ hn_)), Or.elim hk_ (fun hs_ => Or.elim hs_ (fun hs_ => hs_.2.2.2.2) (fun hs_ => hs_.2.2.2.2)) (fun hn_ => (fb BK982 k_ hn_))⟩)) (below_size bes)) (bb BK943 hb) (bb BK949 hb) (bb BK955 hb) (bb BK966 hb) (bb BK982 hb) (below_step bes hb) ?_
  clear HO941 HO947 HO953 HO959 HO964 HO970 HO975 HO980 HO987 BK943 BK949 BK955 BK966 BK982 HB
  intro HO941 HO947 HO953 HO959 HO964 HO970 HO975 HO980 HO987 HO992 BK943 BK949 BK955 BK966 BK982 HB
  (try clear hb)
  (try clear hb2)
  (try clear hk)
  (try clear hi)
  (try clear ho0)
  refine hK.out _ _ ⟨(blk_cell BK966.out 0).trans rfl, (blk_cell BK966.out 1).trans rfl, (blk_cell BK966.out 2).trans rfl, (blk_cell BK982.out 0).trans rfl, (blk_cell BK982.out 1).trans rfl, (blk_cell BK982.out 2).trans rfl, (blk_cell BK943.out 0).trans rfl, (blk_cell BK943.out 1).trans rfl, (blk_cell BK943.out 2).trans rfl, (blk_cell BK949.out 0).trans rfl, (blk_cell BK949.out 1).trans rfl, (blk_cell BK949.out 2).trans rfl, (blk_cell BK955.out 0).trans rfl, (blk_cell BK955.out 1).trans rfl, (blk_cell BK955.out 2).trans rfl⟩ (fun hHeld => ?_)
  clear hK K
  refine norm_ (a' := ?_) ?_ ?_
  rotate_left
  ·
   show Act.put _ (some 40) _ = _
   simp only [Act.put, sa0, sa1, sa2, i64_w, i32_w]
   rfl
  refine one_ (i := 12) (N := some 44) #[true, true, true, true, true, true, true, true, true, true, true, true, true, false, false, false, false, false, false, false, false, false, false, false, false, false, false, false, false, false, false, false, false, false, false, false, false, false, false, false, false, false, false, false, false, false, false, false, false, false, false, false, false, false, false, false, false, false, false, false, false, false, false, false, false, false, false, false, false, false, false, false, false, false, false, false, false, false, false, false, false, false, false, false] rfl rfl (one_of HT_.out (by kernel_rfl)) (by decide) (fun K hK => ?_)
  refine goes_ Tryd.func11 (by kernel_rfl) rfl #[.agg #[.bool t950, .slice Ao30 t951.length co30, .int .i64 t954], .agg #[.bool t938, .slice Ao19 t939.length co19, .int .i64 t942]] (by rfl) rfl rfl ga ?_
  with_reducible refine (dyad_Num_Add.calls k t950 (fun k_ => (k_ ≠ gb943 ∧ (k_ ≠ gb949 ∧ (k_ ≠ gb955 ∧ (k_ ≠ gb966 ∧ k_ ≠ gb982))))) _ _ t951 t954 t938 (fun k_ => (k_ ≠ gb943 ∧ (k_ ≠ gb949 ∧ (k_ ≠ gb955 ∧ (k_ ≠ gb966 ∧ k_ ≠ gb982))))) _ _ t939 t942 t994 t995 t998 _ ?side1 ?side2 ?side3 A59.out).mono ?_
  (case side1 => exact HO953.out)
  (case side2 => exact HO941.out)
  (case side3 => first | exact hT | exact TabW.drewN hT _ | exact TabW.drew hT | exact TabW.below hT bes)
  rintro e w97 ⟨v996, rfl, ho0, hb⟩
  refine ⟨_, rfl, ?_⟩
  refine ax17 (Kd.V_below (kv HO941) hb) (Kd.V_below (kv HO947) hb) (Kd.V_below (kv HO953) hb) (Kd.V_below (kv HO959) hb) (Kd.V_below (kv HO964) hb) (Kd.V_below (kv HO970) hb) (Kd.V_below (kv HO975) hb) (Kd.V_below (kv HO980) hb) (Kd.V_below (kv HO987) hb) (Kd.V_below (kv HO992) hb) (Kd.V_lower (Kd.V_mono (ok' := fun k_ => k_ ≠ gb943 ∧ k_ ≠ gb949 ∧ k_ ≠ gb955 ∧ k_ ≠ gb966 ∧ k_ ≠ gb982) ho0 (fun k_ hk_ => ⟨Or.elim hk_ (fun hs_ => Or.elim hs_ (fun hs_ => hs_.1) (fun hs_ => hs_.1)) (fun hn_ => (fb BK943 k_ hn_)), Or.elim hk_ (fun hs_ => Or.elim hs_ (fun hs_ => hs_.2.1) (fun hs_ => hs_.2.1)) (fun hn_ => (fb BK949 k_ hn_)), Or.elim hk_ (fun hs_ => Or.elim hs_ (fun hs_ => hs_.2.2.1) (fun hs_ => hs_.2.2.1)) (fun hn_ => (fb BK955 k_ hn_)), Or.elim hk_ (fun hs_ => Or.elim hs_ (fun hs_ => hs_.2.2.2.1) (fun hs_ => hs_.2.2.2.1)) (fun hn_ => (fb BK966 k_ hn_)), Or.elim hk_ (fun hs_ => Or.elim hs_ (fun hs_ => hs_.2.2.2.2) (fun hs_ => hs_.2.2.2.2)) (fun hn_ => (fb BK982 k_ hn_))⟩)) (below_size bes)) (bb BK943 hb) (bb BK949 hb) (bb BK955 hb) (bb BK966 hb) (bb BK982 hb) (below_step bes hb) ?_
  clear HO941 HO947 HO953 HO959 HO964 HO970 HO975 HO980 HO987 HO992 BK943 BK949 BK955 BK966 BK982 HB
  intro HO941 HO947 HO953 HO959 HO964 HO970 HO975 HO980 HO987 HO992 HO997 BK943 BK949 BK955 BK966 BK982 HB
  (try clear hb)
  (try clear hb2)
  (try clear hk)
  (try clear hi)
  (try clear ho0)
  obtain ⟨Ao98, co98, eo98⟩ := Kd.V_slice HO997.out
  (first | subst eo98 | (injection eo98 with f1_ f2_ f3_; have f4_ := f1_.symm; have f5_ := f3_.symm; clear f1_ f2_ f3_; subst f4_; subst f5_))
  refine hK.out _ _ ⟨(blk_cell BK966.out 0).trans rfl, (blk_cell BK966.out 1).trans rfl, (blk_cell BK966.out 2).trans rfl, (blk_cell BK982.out 0).trans rfl, (blk_cell BK982.out 1).trans rfl, (blk_cell BK982.out 2).trans rfl, (blk_cell BK943.out 0).trans rfl, (blk_cell BK943.out 1).trans rfl, (blk_cell BK943.out 2).trans rfl, (blk_cell BK949.out 0).trans rfl, (blk_cell BK949.out 1).trans rfl, (blk_cell BK949.out 2).trans rfl, (blk_cell BK955.out 0).trans rfl, (blk_cell BK955.out 1).trans rfl, (blk_cell BK955.out 2).trans rfl⟩ (fun hHeld => ?_)
  clear hK K
  refine norm_ (a' := ?_) ?_ ?_
  rotate_left
  ·
   show Act.put _ (some 44) _ = _
   simp only [Act.put, sa0, sa1, sa2, i64_w, i32_w]
   rfl
  refine one_ (i := 13) (N := some 45) #[true, true, true, true, true, true, true, true, true, true, true, true, true, true, false, false, false, false, false, false, false, false, false, false, false, false, false, false, false, false, false, false, false, false, false, false, false, false, false, false, false, false, false, false, false, false, false, false, false, false, false, false, false, false, false, false, false, false, false, false, false, false, false, false, false, false, false, false, false, false, false, false, false, false, false, false, false, false, false, false, false, false, false, false] rfl rfl (one_of HT_.out (by kernel_rfl)) (by decide) (fun K hK => ?_)
  refine goes_ Tryd.func11 (by kernel_rfl) rfl #[.agg #[.bool t944, .slice Ao24 t945.length co24, .int .i64 t948], .agg #[.bool t994, .slice Ao98 t995.length co98, .int .i64 t998]] (by rfl) rfl rfl ga ?_
  with_reducible refine (dyad_Num_Add.calls k t944 (fun k_ => (k_ ≠ gb943 ∧ (k_ ≠ gb949 ∧ (k_ ≠ gb955 ∧ (k_ ≠ gb966 ∧ k_ ≠ gb982))))) _ _ t945 t948 t994 (fun k_ => (k_ ≠ gb943 ∧ (k_ ≠ gb949 ∧ (k_ ≠ gb955 ∧ (k_ ≠ gb966 ∧ k_ ≠ gb982))))) _ _ t995 t998 t999 t1000 t1003 _ ?side1 ?side2 ?side3 A60.out).mono ?_
  (case side1 => exact HO947.out)
  (case side2 => exact HO997.out)
  (case side3 => first | exact hT | exact TabW.drewN hT _ | exact TabW.drew hT | exact TabW.below hT bes)
  rintro e w99 ⟨v1001, rfl, ho0, hb⟩
  refine ⟨_, rfl, ?_⟩
  refine ax18 (Kd.V_below (kv HO941) hb) (Kd.V_below (kv HO947) hb) (Kd.V_below (kv HO953) hb) (Kd.V_below (kv HO959) hb) (Kd.V_below (kv HO964) hb) (Kd.V_below (kv HO970) hb) (Kd.V_below (kv HO975) hb) (Kd.V_below (kv HO980) hb) (Kd.V_below (kv HO987) hb) (Kd.V_below (kv HO992) hb) (Kd.V_below (kv HO997) hb) (Kd.V_lower (Kd.V_mono (ok' := fun k_ => k_ ≠ gb943 ∧ k_ ≠ gb949 ∧ k_ ≠ gb955 ∧ k_ ≠ gb966 ∧ k_ ≠ gb982) ho0 (fun k_ hk_ => ⟨Or.elim hk_ (fun hs_ => Or.elim hs_ (fun hs_ => hs_.1) (fun hs_ => hs_.1)) (fun hn_ => (fb BK943 k_ hn_)), Or.elim hk_ (fun hs_ => Or.elim hs_ (fun hs_ => hs_.2.1) (fun hs_ => hs_.2.1)) (fun hn_ => (fb BK949 k_ hn_)), Or.elim hk_ (fun hs_ => Or.elim hs_ (fun hs_ => hs_.2.2.1) (fun hs_ => hs_.2.2.1)) (fun hn_ => (fb BK955 k_ hn_)), Or.elim hk_ (fun hs_ => Or.elim hs_ (fun hs_ => hs_.2.2.2.1) (fun hs_ => hs_.2.2.2.1)) (fun hn_ => (fb BK966 k_ hn_)), Or.elim hk_ (fun hs_ => Or.elim hs_ (fun hs_ => hs_.2.2.2.2) (fun hs_ => hs_.2.2.2.2)) (fun hn_ => (fb BK982 k_ hn_))⟩)) (below_size bes)) (bb BK943 hb) (bb BK949 hb) (bb BK955 hb) (bb BK966 hb) (bb BK982 hb) (below_step bes hb) ?_
  clear HO941 HO947 HO953 HO959 HO964 HO970 HO975 HO980 HO987 HO992 HO997 BK943 BK949 BK955 BK966 BK982 HB
  intro HO941 HO947 HO953 HO959 HO964 HO970 HO975 HO980 HO987 HO992 HO997 HO1002 BK943 BK949 BK955 BK966 BK982 HB
  (try clear hb)
  (try clear hb2)
  (try clear hk)
  (try clear hi)
  (try clear ho0)
  obtain ⟨Ao100, co100, eo100⟩ := Kd.V_slice HO992.out
  (first | subst eo100 | (injection eo100 with f1_ f2_ f3_; have f4_ := f1_.symm; have f5_ := f3_.symm; clear f1_ f2_ f3_; subst f4_; subst f5_))
  obtain ⟨Ao101, co101, eo101⟩ := Kd.V_slice HO1002.out
  (first | subst eo101 | (injection eo101 with f1_ f2_ f3_; have f4_ := f1_.symm; have f5_ := f3_.symm; clear f1_ f2_ f3_; subst f4_; subst f5_))
  refine hK.out _ _ ⟨(blk_cell BK966.out 0).trans rfl, (blk_cell BK966.out 1).trans rfl, (blk_cell BK966.out 2).trans rfl, (blk_cell BK982.out 0).trans rfl, (blk_cell BK982.out 1).trans rfl, (blk_cell BK982.out 2).trans rfl, (blk_cell BK943.out 0).trans rfl, (blk_cell BK943.out 1).trans rfl, (blk_cell BK943.out 2).trans rfl, (blk_cell BK949.out 0).trans rfl, (blk_cell BK949.out 1).trans rfl, (blk_cell BK949.out 2).trans rfl, (blk_cell BK955.out 0).trans rfl, (blk_cell BK955.out 1).trans rfl, (blk_cell BK955.out 2).trans rfl⟩ (fun hHeld => ?_)
  clear hK K
  refine norm_ (a' := ?_) ?_ ?_
  rotate_left
  ·
   show Act.put _ (some 45) _ = _
   simp only [Act.put, sa0, sa1, sa2, i64_w, i32_w]
   rfl
  refine one_ (i := 14) (N := some 46) #[true, true, true, true, true, true, true, true, true, true, true, true, true, true, true, false, false, false, false, false, false, false, false, false, false, false, false, false, false, false, false, false, false, false, false, false, false, false, false, false, false, false, false, false, false, false, false, false, false, false, false, false, false, false, false, false, false, false, false, false, false, false, false, false, false, false, false, false, false, false, false, false, false, false, false, false, false, false, false, false, false, false, false, false] rfl rfl (one_of HT_.out (by kernel_rfl)) (by decide) (fun K hK => ?_)
  refine goes_ Tryd.func28 (by kernel_rfl) rfl #[.agg #[.bool t989, .slice Ao100 t990.length co100, .int .i64 t993], .agg #[.bool t999, .slice Ao101 t1000.length co101, .int .i64 t1003]] (by rfl) rfl rfl ga ?_
  with_reducible refine (dyad_Num_Same.calls k t989 _ _ t990 t993 t999 _ _ t1000 t1003 true _ ?side1 ?side2 ?side3 ?side4 A61.out).mono ?_
  (case side1 => exact kvs HO992)
  (case side2 => exact (Kd.V_reads' HO992.out).2.1)
  (case side3 => exact kvs HO1002)
  (case side4 => exact (Kd.V_reads' HO1002.out).2.1)
  rintro e w102 ⟨rfl, hb⟩
  refine ⟨_, rfl, ?_⟩
  refine ax18 (Kd.V_below (kv HO941) hb) (Kd.V_below (kv HO947) hb) (Kd.V_below (kv HO953) hb) (Kd.V_below (kv HO959) hb) (Kd.V_below (kv HO964) hb) (Kd.V_below (kv HO970) hb) (Kd.V_below (kv HO975) hb) (Kd.V_below (kv HO980) hb) (Kd.V_below (kv HO987) hb) (Kd.V_below (kv HO992) hb) (Kd.V_below (kv HO997) hb) (Kd.V_below (kv HO1002) hb) (bb BK943 hb) (bb BK949 hb) (bb BK955 hb) (bb BK966 hb) (bb BK982 hb) (below_step bes hb) ?_
  clear HO941 HO947 HO953 HO959 HO964 HO970 HO975 HO980 HO987 HO992 HO997 HO1002 BK943 BK949 BK955 BK966 BK982 HB
  intro HO941 HO947 HO953 HO959 HO964 HO970 HO975 HO980 HO987 HO992 HO997 HO1002 BK943 BK949 BK955 BK966 BK982 HB
  (try clear hb)
  (try clear hb2)
  (try clear hk)
  (try clear hi)
  refine hK.out _ _ ⟨(blk_cell BK966.out 0).trans rfl, (blk_cell BK966.out 1).trans rfl, (blk_cell BK966.out 2).trans rfl, (blk_cell BK982.out 0).trans rfl, (blk_cell BK982.out 1).trans rfl, (blk_cell BK982.out 2).trans rfl, (blk_cell BK943.out 0).trans rfl, (blk_cell BK943.out 1).trans rfl, (blk_cell BK943.out 2).trans rfl, (blk_cell BK949.out 0).trans rfl, (blk_cell BK949.out 1).trans rfl, (blk_cell BK949.out 2).trans rfl, (blk_cell BK955.out 0).trans rfl, (blk_cell BK955.out 1).trans rfl, (blk_cell BK955.out 2).trans rfl⟩ (fun hHeld => ?_)
  clear hK K
  refine norm_ (a' := ?_) ?_ ?_
  rotate_left
  ·
   show Act.put _ (some 46) _ = _
   simp only [Act.put, sa0, sa1, sa2, i64_w, i32_w]
   rfl
  refine pure_ (i := 15) (N := some 47) (v := ?_) (a' := ?_) #[true, true, true, true, true, true, true, true, true, true, true, true, true, true, true, true, false, false, false, false, false, false, false, false, false, false, false, false, false, false, false, false, false, false, false, false, false, false, false, false, false, false, false, false, false, false, false, false, false, false, false, false, false, false, false, false, false, false, false, false, false, false, false, false, false, false, false, false, false, false, false, false, false, false, false, false, false, false, false, false, false, false, false, false] rfl rfl (any_of HT_.out (by kernel_rfl)) (fun _ _ _ h => h) (Or.inl ⟨by rfl, ?_⟩) ?_ ?_
  rotate_left
  ·
   intro w'
   go_simp
   with_reducible rfl
  rotate_left
  ·
   simp only [Act.put, sa0, sa1, sa2, i64_w, i32_w]
   rfl
  refine pure_ (i := 16) (N := some 48) (v := ?_) (a' := ?_) #[true, true, true, true, true, true, true, true, true, true, true, true, true, true, true, true, true, false, false, false, false, false, false, false, false, false, false, false, false, false, false, false, false, false, false, false, false, false, false, false, false, false, false, false, false, false, false, false, false, false, false, false, false, false, false, false, false, false, false, false, false, false, false, false, false, false, false, false, false, false, false, false, false, false, false, false, false, false, false, false, false, false, false, false] rfl rfl (any_of HT_.out (by kernel_rfl)) (fun _ _ _ h => h) (Or.inl ⟨by rfl, ?_⟩) ?_ ?_
  rotate_left
  ·
   intro w'
   go_simp
   with_reducible rfl
  rotate_left
  ·
   simp only [Act.put, sa0, sa1, sa2, i64_w, i32_w]
   rfl
  refine take_ (i := 17) (N := some 49) (v := ?_) (a' := ?_) #[true, true, true, true, true, true, true, true, true, true, true, true, true, true, true, true, true, true, false, false, false, false, false, false, false, false, false, false, false, false, false, false, false, false, false, false, false, false, false, false, false, false, false, false, false, false, false, false, false, false, false, false, false, false, false, false, false, false, false, false, false, false, false, false, false, false, false, false, false, false, false, false, false, false, false, false, false, false, false, false, false, false, false, false] rfl rfl (take_ofW HT_.out HW_.out (by kernel_rfl)) (fun _ _ _ h => h) (Or.inl ⟨by rfl, ?_⟩) hHeld ?_ ?_
  rotate_left
  ·
   rintro w' ⟨s0, s1, s2, s3, s4, s5, s6, s7, s8, s9, s10, s11, s12, s13, s14⟩
   go_simp
   with_reducible rfl
  rotate_left
  ·
   simp only [Act.put, sa0, sa1, sa2, i64_w, i32_w]
   rfl
  refine take_ (i := 18) (N := some 50) (v := ?_) (a' := ?_) #[true, true, true, true, true, true, true, true, true, true, true, true, true, true, true, true, true, true, true, false, false, false, false, false, false, false, false, false, false, false, false, false, false, false, false, false, false, false, false, false, false, false, false, false, false, false, false, false, false, false, false, false, false, false, false, false, false, false, false, false, false, false, false, false, false, false, false, false, false, false, false, false, false, false, false, false, false, false, false, false, false, false, false, false] rfl rfl (take_ofW HT_.out HW_.out (by kernel_rfl)) (fun _ _ _ h => h) (Or.inl ⟨by rfl, ?_⟩) hHeld ?_ ?_
  rotate_left
  ·
   rintro w' ⟨s0, s1, s2, s3, s4, s5, s6, s7, s8, s9, s10, s11, s12, s13, s14⟩
   go_simp
   with_reducible rfl
  rotate_left
  ·
   simp only [Act.put, sa0, sa1, sa2, i64_w, i32_w]
   rfl
  refine take_ (i := 20) (N := some 52) (v := ?_) (a' := ?_) #[true, true, true, true, true, true, true, true, true, true, true, true, true, true, true, true, true, true, true, false, true, false, false, false, false, false, false, false, false, false, false, false, false, false, false, false, false, false, false, false, false, false, false, false, false, false, false, false, false, false, false, false, false, false, false, false, false, false, false, false, false, false, false, false, false, false, false, false, false, false, false, false, false, false, false, false, false, false, false, false, false, false, false, false] rfl rfl (take_ofW HT_.out HW_.out (by kernel_rfl)) (fun _ _ _ h => h) (Or.inl ⟨by rfl, ?_⟩) hHeld ?_ ?_
  rotate_left
  ·
   rintro w' ⟨s0, s1, s2, s3, s4, s5, s6, s7, s8, s9, s10, s11, s12, s13, s14⟩
   go_simp
   with_reducible rfl
  rotate_left
  ·
   simp only [Act.put, sa0, sa1, sa2, i64_w, i32_w]
   rfl
  refine take_ (i := 22) (N := some 54) (v := ?_) (a' := ?_) #[true, true, true, true, true, true, true, true, true, true, true, true, true, true, true, true, true, true, true, false, true, false, true, false, false, false, false, false, false, false, false, false, false, false, false, false, false, false, false, false, false, false, false, false, false, false, false, false, false, false, false, false, false, false, false, false, false, false, false, false, false, false, false, false, false, false, false, false, false, false, false, false, false, false, false, false, false, false, false, false, false, false, false, false] rfl rfl (take_ofW HT_.out HW_.out (by kernel_rfl)) (fun _ _ _ h => h) (Or.inl ⟨by rfl, ?_⟩) hHeld ?_ ?_
  rotate_left
  ·
   rintro w' ⟨s0, s1, s2, s3, s4, s5, s6, s7, s8, s9, s10, s11, s12, s13, s14⟩
   go_simp
   with_reducible rfl
  rotate_left
  ·
   simp only [Act.put, sa0, sa1, sa2, i64_w, i32_w]
   rfl
  refine one_ (i := 19) (N := some 51) #[true, true, true, true, true, true, true, true, true, true, true, true, true, true, true, true, true, true, true, true, true, false, true, false, false, false, false, false, false, false, false, false, false, false, false, false, false, false, false, false, false, false, false, false, false, false, false, false, false, false, false, false, false, false, false, false, false, false, false, false, false, false, false, false, false, false, false, false, false, false, false, false, false, false, false, false, false, false, false, false, false, false, false, false] rfl rfl (one_of HT_.out (by kernel_rfl)) (by decide) (fun K hK => ?_)
  refine goes_ Tryd.func23 (by kernel_rfl) rfl #[.agg #[.bool t938, .slice Ao19 t939.length co19, .int .i64 t942], .agg #[.bool t944, .slice Ao24 t945.length co24, .int .i64 t948]] (by rfl) rfl rfl ga ?_
  with_reducible refine (dyad_Num_Sub.calls k t938 (fun k_ => (k_ ≠ gb943 ∧ (k_ ≠ gb949 ∧ (k_ ≠ gb955 ∧ (k_ ≠ gb966 ∧ k_ ≠ gb982))))) _ _ t939 t942 t944 (fun k_ => (k_ ≠ gb943 ∧ (k_ ≠ gb949 ∧ (k_ ≠ gb955 ∧ (k_ ≠ gb966 ∧ k_ ≠ gb982))))) _ _ t945 t948 t1005 t1006 t1009 _ ?side1 ?side2 ?side3 A63.out).mono ?_
  (case side1 => exact HO941.out)
  (case side2 => exact HO947.out)
  (case side3 => first | exact hT | exact TabW.drewN hT _ | exact TabW.drew hT | exact TabW.below hT bes)
  rintro e w103 ⟨v1007, rfl, ho0, hb⟩
  refine ⟨_, rfl, ?_⟩
  refine ax19 (Kd.V_below (kv HO941) hb) (Kd.V_below (kv HO947) hb) (Kd.V_below (kv HO953) hb) (Kd.V_below (kv HO959) hb) (Kd.V_below (kv HO964) hb) (Kd.V_below (kv HO970) hb) (Kd.V_below (kv HO975) hb) (Kd.V_below (kv HO980) hb) (Kd.V_below (kv HO987) hb) (Kd.V_below (kv HO992) hb) (Kd.V_below (kv HO997) hb) (Kd.V_below (kv HO1002) hb) (Kd.V_lower (Kd.V_mono (ok' := fun k_ => k_ ≠ gb943 ∧ k_ ≠ gb949 ∧ k_ ≠ gb955 ∧ k_ ≠ gb966 ∧ k_ ≠ gb982) ho0 (fun k_ hk_ => ⟨Or.elim hk_ (fun hs_ => Or.elim hs_ (fun hs_ => hs_.1) (fun hs_ => hs_.1)) (fun hn_ => (fb BK943 k_ hn_)), Or.elim hk_ (fun hs_ => Or.elim hs_ (fun hs_ => hs_.2.1) (fun hs_ => hs_.2.1)) (fun hn_ => (fb BK949 k_ hn_)), Or.elim hk_ (fun hs_ => Or.elim hs_ (fun hs_ => hs_.2.2.1) (fun hs_ => hs_.2.2.1)) (fun hn_ => (fb BK955 k_ hn_)), Or.elim hk_ (fun hs_ => Or.elim hs_ (fun hs_ => hs_.2.2.2.1) (fun hs_ => hs_.2.2.2.1)) (fun hn_ => (fb BK966 k_ hn_)), Or.elim hk_ (fun hs_ => Or.elim hs_ (fun hs_ => hs_.2.2.2.2) (fun hs_ => hs_.2.2.2.2)) (fun hn_ => (fb BK982 k_ hn_))⟩)) (below_size bes)) (bb BK943 hb) (bb BK949 hb) (bb BK955 hb) (bb BK966 hb) (bb BK982 hb) (below_step bes hb) ?_
  clear HO941 HO947 HO953 HO959 HO964 HO970 HO975 HO980 HO987 HO992 HO997 HO1002 BK943 BK949 BK955 BK966 BK982 HB
  intro HO941 HO947 HO953 HO959 HO964 HO970 HO975 HO980 HO987 HO992 HO997 HO1002 HO1008 BK943 BK949 BK955 BK966 BK982 HB
  (try clear hb)
  (try clear hb2)
  (try clear hk)
  (try clear hi)
  (try clear ho0)
  obtain ⟨Ao104, co104, eo104⟩ := Kd.V_slice HO1008.out
  (first | subst eo104 | (injection eo104 with f1_ f2_ f3_; have f4_ := f1_.symm; have f5_ := f3_.symm; clear f1_ f2_ f3_; subst f4_; subst f5_))
  refine hK.out _ _ ⟨(blk_cell BK966.out 0).trans rfl, (blk_cell BK966.out 1).trans rfl, (blk_cell BK966.out 2).trans rfl, (blk_cell BK982.out 0).trans rfl, (blk_cell BK982.out 1).trans rfl, (blk_cell BK982.out 2).trans rfl, (blk_cell BK943.out 0).trans rfl, (blk_cell BK943.out 1).trans rfl, (blk_cell BK943.out 2).trans rfl, (blk_cell BK949.out 0).trans rfl, (blk_cell BK949.out 1).trans rfl, (blk_cell BK949.out 2).trans rfl, (blk_cell BK955.out 0).trans rfl, (blk_cell BK955.out 1).trans rfl, (blk_cell BK955.out 2).trans rfl⟩ (fun hHeld => ?_)
  clear hK K
  refine norm_ (a' := ?_) ?_ ?_
  rotate_left
  ·
   show Act.put _ (some 51) _ = _
   simp only [Act.put, sa0, sa1, sa2, i64_w, i32_w]
   rfl
  refine one_ (i := 21) (N := some 53) #[true, true, true, true, true, true, true, true, true, true, true, true, true, true, true, true, true, true, true, true, true, true, true, false, false, false, false, false, false, false, false, false, false, false, false, false, false, false, false, false, false, false, false, false, false, false, false, false, false, false, false, false, false, false, false, false, false, false, false, false, false, false, false, false, false, false, false, false, false, false, false, false, false, false, false, false, false, false, false, false, false, false, false, false] rfl rfl (one_of HT_.out (by kernel_rfl)) (by decide) (fun K hK => ?_)
  refine goes_ Tryd.func11 (by kernel_rfl) rfl #[.agg #[.bool t1005, .slice Ao104 t1006.length co104, .int .i64 t1009], .agg #[.bool t944, .slice Ao24 t945.length co24, .int .i64 t948]] (by rfl) rfl rfl ga ?_
  with_reducible refine (dyad_Num_Add.calls k t1005 (fun k_ => (k_ ≠ gb943 ∧ (k_ ≠ gb949 ∧ (k_ ≠ gb955 ∧ (k_ ≠ gb966 ∧ k_ ≠ gb982))))) _ _ t1006 t1009 t944 (fun k_ => (k_ ≠ gb943 ∧ (k_ ≠ gb949 ∧ (k_ ≠ gb955 ∧ (k_ ≠ gb966 ∧ k_ ≠ gb982))))) _ _ t945 t948 t1010 t1011 t1014 _ ?side1 ?side2 ?side3 A64.out).mono ?_
  (case side1 => exact HO1008.out)
  (case side2 => exact HO947.out)
  (case side3 => first | exact hT | exact TabW.drewN hT _ | exact TabW.drew hT | exact TabW.below hT bes)
  rintro e w105 ⟨v1012, rfl, ho0, hb⟩
  refine ⟨_, rfl, ?_⟩
  refine ax20 (Kd.V_below (kv HO941) hb) (Kd.V_below (kv HO947) hb) (Kd.V_below (kv HO953) hb) (Kd.V_below (kv HO959) hb) (Kd.V_below (kv HO964) hb) (Kd.V_below (kv HO970) hb) (Kd.V_below (kv HO975) hb) (Kd.V_below (kv HO980) hb) (Kd.V_below (kv HO987) hb) (Kd.V_below (kv HO992) hb) (Kd.V_below (kv HO997) hb) (Kd.V_below (kv HO1002) hb) (Kd.V_below (kv HO1008) hb) (Kd.V_lower (Kd.V_mono (ok' := fun k_ => k_ ≠ gb943 ∧ k_ ≠ gb949 ∧ k_ ≠ gb955 ∧ k_ ≠ gb966 ∧ k_ ≠ gb982) ho0 (fun k_ hk_ => ⟨Or.elim hk_ (fun hs_ => Or.elim hs_ (fun hs_ => hs_.1) (fun hs_ => hs_.1)) (fun hn_ => (fb BK943 k_ hn_)), Or.elim hk_ (fun hs_ => Or.elim hs_ (fun hs_ => hs_.2.1) (fun hs_ => hs_.2.1)) (fun hn_ => (fb BK949 k_ hn_)), Or.elim hk_ (fun hs_ => Or.elim hs_ (fun hs_ => hs_.2.2.1) (fun hs_ => hs_.2.2.1)) (fun hn_ => (fb BK955 k_ hn_)), Or.elim hk_ (fun hs_ => Or.elim hs_ (fun hs_ => hs_.2.2.2.1) (fun hs_ => hs_.2.2.2.1)) (fun hn_ => (fb BK966 k_ hn_)), Or.elim hk_ (fun hs_ => Or.elim hs_ (fun hs_ => hs_.2.2.2.2) (fun hs_ => hs_.2.2.2.2)) (fun hn_ => (fb BK982 k_ hn_))⟩)) (below_size bes)) (bb BK943 hb) (bb BK949 hb) (bb BK955 hb) (bb BK966 hb) (bb BK982 hb) (below_step bes hb) ?_
  clear HO941 HO947 HO953 HO959 HO964 HO970 HO975 HO980 HO987 HO992 HO997 HO1002 HO1008 BK943 BK949 BK955 BK966 BK982 HB
  intro HO941 HO947 HO953 HO959 HO964 HO970 HO975 HO980 HO987 HO992 HO997 HO1002 HO1008 HO1013 BK943 BK949 BK955 BK966 BK982 HB
  (try clear hb)
  (try clear hb2)
  (try clear hk)
  (try clear hi)
  (try clear ho0)
  obtain ⟨Ao106, co106, eo106⟩ := Kd.V_slice HO1013.out
  (first | subst eo106 | (injection eo106 with f1_ f2_ f3_; have f4_ := f1_.symm; have f5_ := f3_.symm; clear f1_ f2_ f3_; subst f4_; subst f5_))
  refine hK.out _ _ ⟨(blk_cell BK966.out 0).trans rfl, (blk_cell BK966.out 1).trans rfl, (blk_cell BK966.out 2).trans rfl, (blk_cell BK982.out 0).trans rfl, (blk_cell BK982.out 1).trans rfl, (blk_cell BK982.out 2).trans rfl, (blk_cell BK943.out 0).trans rfl, (blk_cell BK943.out 1).trans rfl, (blk_cell BK943.out 2).trans rfl, (blk_cell BK949.out 0).trans rfl, (blk_cell BK949.out 1).trans rfl, (blk_cell BK949.out 2).trans rfl, (blk_cell BK955.out 0).trans rfl, (blk_cell BK955.out 1).trans rfl, (blk_cell BK955.out 2).trans rfl⟩ (fun hHeld => ?_)
  clear hK K
  refine norm_ (a' := ?_) ?_ ?_
  rotate_left
  ·
   show Act.put _ (some 53) _ = _
   simp only [Act.put, sa0, sa1, sa2, i64_w, i32_w]
   rfl
  refine one_ (i := 23) (N := some 55) #[true, true, true, true, true, true, true, true, true, true, true, true, true, true, true, true, true, true, true, true, true, true, true, true, false, false, false, false, false, false, false, false, false, false, false, false, false, false, false, false, false, false, false, false, false, false, false, false, false, false, false, false, false, false, false, false, false, false, false, false, false, false, false, false, false, false, false, false, false, false, false, false, false, false, false, false, false, false, false, false, false, false, false, false] rfl rfl (one_of HT_.out (by kernel_rfl)) (by decide) (fun K hK => ?_)
  refine goes_ Tryd.func28 (by kernel_rfl) rfl #[.agg #[.bool t1010, .slice Ao106 t1011.length co106, .int .i64 t1014], .agg #[.bool t938, .slice Ao19 t939.length co19, .int .i64 t942]] (by rfl) rfl rfl ga ?_
  with_reducible refine (dyad_Num_Same.calls k t1010 _ _ t1011 t1014 t938 _ _ t939 t942 true _ ?side1 ?side2 ?side3 ?side4 A65.out).mono ?_
  (case side1 => exact kvs HO1013)
  (case side2 => exact (Kd.V_reads' HO1013.out).2.1)
  (case side3 => exact kvs HO941)
  (case side4 => exact (Kd.V_reads' HO941.out).2.1)
  rintro e w107 ⟨rfl, hb⟩
  refine ⟨_, rfl, ?_⟩
  refine ax20 (Kd.V_below (kv HO941) hb) (Kd.V_below (kv HO947) hb) (Kd.V_below (kv HO953) hb) (Kd.V_below (kv HO959) hb) (Kd.V_below (kv HO964) hb) (Kd.V_below (kv HO970) hb) (Kd.V_below (kv HO975) hb) (Kd.V_below (kv HO980) hb) (Kd.V_below (kv HO987) hb) (Kd.V_below (kv HO992) hb) (Kd.V_below (kv HO997) hb) (Kd.V_below (kv HO1002) hb) (Kd.V_below (kv HO1008) hb) (Kd.V_below (kv HO1013) hb) (bb BK943 hb) (bb BK949 hb) (bb BK955 hb) (bb BK966 hb) (bb BK982 hb) (below_step bes hb) ?_
  clear HO941 HO947 HO953 HO959 HO964 HO970 HO975 HO980 HO987 HO992 HO997 HO1002 HO1008 HO1013 BK943 BK949 BK955 BK966 BK982 HB
  intro HO941 HO947 HO953 HO959 HO964 HO970 HO975 HO980 HO987 HO992 HO997 HO1002 HO1008 HO1013 BK943 BK949 BK955 BK966 BK982 HB
  (try clear hb)
  (try clear hb2)
  (try clear hk)
  (try clear hi)
  refine hK.out _ _ ⟨(blk_cell BK966.out 0).trans rfl, (blk_cell BK966.out 1).trans rfl, (blk_cell BK966.out 2).trans rfl, (blk_cell BK982.out 0).trans rfl, (blk_cell BK982.out 1).trans rfl, (blk_cell BK982.out 2).trans rfl, (blk_cell BK943.out 0).trans rfl, (blk_cell BK943.out 1).trans rfl, (blk_cell BK943.out 2).trans rfl, (blk_cell BK949.out 0).trans rfl, (blk_cell BK949.out 1).trans rfl, (blk_cell BK949.out 2).trans rfl, (blk_cell BK955.out 0).trans rfl, (blk_cell BK955.out 1).trans rfl, (blk_cell BK955.out 2).trans rfl⟩ (fun hHeld => ?_)
  clear hK K
  refine norm_ (a' := ?_) ?_ ?_
  rotate_left
  ·
   show Act.put _ (some 55) _ = _
   simp only [Act.put, sa0, sa1, sa2, i64_w, i32_w]
   rfl
  refine pure_ (i := 24) (N := some 56) (v := ?_) (a' := ?_) #[true, true, true, true, true, true, true, true, true, true, true, true, true, true, true, true, true, true, true, true, true, true, true, true, true, false, false, false, false, false, false, false, false, false, false, false, false, false, false, false, false, false, false, false, false, false, false, false, false, false, false, false, false, false, false, false, false, false, false, false, false, false, false, false, false, false, false, false, false, false, false, false, false, false, false, false, false, false, false, false, false, false, false, false] rfl rfl (any_of HT_.out (by kernel_rfl)) (fun _ _ _ h => h) (Or.inl ⟨by rfl, ?_⟩) ?_ ?_
  rotate_left
  ·
   intro w'
   go_simp
   with_reducible rfl
  rotate_left
  ·
   simp only [Act.put, sa0, sa1, sa2, i64_w, i32_w]
   rfl
  refine pure_ (i := 25) (N := some 57) (v := ?_) (a' := ?_) #[true, true, true, true, true, true, true, true, true, true, true, true, true, true, true, true, true, true, true, true, true, true, true, true, true, true, false, false, false, false, false, false, false, false, false, false, false, false, false, false, false, false, false, false, false, false, false, false, false, false, false, false, false, false, false, false, false, false, false, false, false, false, false, false, false, false, false, false, false, false, false, false, false, false, false, false, false, false, false, false, false, false, false, false] rfl rfl (any_of HT_.out (by kernel_rfl)) (fun _ _ _ h => h) (Or.inl ⟨by rfl, ?_⟩) ?_ ?_
  rotate_left
  ·
   intro w'
   go_simp
   with_reducible rfl
  rotate_left
  ·
   simp only [Act.put, sa0, sa1, sa2, i64_w, i32_w]
   rfl
  refine take_ (i := 26) (N := some 58) (v := ?_) (a' := ?_) #[true, true, true, true, true, true, true, true, true, true, true, true, true, true, true, true, true, true, true, true, true, true, true, true, true, true, true, false, false, false, false, false, false, false, false, false, false, false, false, false, false, false, false, false, false, false, false, false, false, false, false, false, false, false, false, false, false, false, false, false, false, false, false, false, false, false, false, false, false, false, false, false, false, false, false, false, false, false, false, false, false, false, false, false] rfl rfl (take_ofW HT_.out HW_.out (by kernel_rfl)) (fun _ _ _ h => h) (Or.inl ⟨by rfl, ?_⟩) hHeld ?_ ?_
  rotate_left
  ·
   rintro w' ⟨s0, s1, s2, s3, s4, s5, s6, s7, s8, s9, s10, s11, s12, s13, s14⟩
   go_simp
   with_reducible rfl
  rotate_left
  ·
   simp only [Act.put, sa0, sa1, sa2, i64_w, i32_w]
   rfl
  refine take_ (i := 27) (N := some 59) (v := ?_) (a' := ?_) #[true, true, true, true, true, true, true, true, true, true, true, true, true, true, true, true, true, true, true, true, true, true, true, true, true, true, true, true, false, false, false, false, false, false, false, false, false, false, false, false, false, false, false, false, false, false, false, false, false, false, false, false, false, false, false, false, false, false, false, false, false, false, false, false, false, false, false, false, false, false, false, false, false, false, false, false, false, false, false, false, false, false, false, false] rfl rfl (take_ofW HT_.out HW_.out (by kernel_rfl)) (fun _ _ _ h => h) (Or.inl ⟨by rfl, ?_⟩) hHeld ?_ ?_
  rotate_left
  ·
   rintro w' ⟨s0, s1, s2, s3, s4, s5, s6, s7, s8, s9, s10, s11, s12, s13, s14⟩
   go_simp
   with_reducible rfl
  rotate_left
  ·
   simp only [Act.put, sa0, sa1, sa2, i64_w, i32_w]
   rfl
  refine one_ (i := 28) (N := some 60) #[true, true, true, true, true, true, true, true, true, true, true, true, true, true, true, true, true, true, true, true, true, true, true, true, true, true, true, true, true, false, false, false, false, false, false, false, false, false, false, false, false, false, false, false, false, false, false, false, false, false, false, false, false, false, false, false, false, false, false, false, false, false, false, false, false, false, false, false, false, false, false, false, false, false, false, false, false, false, false, false, false, false, false, false] rfl rfl (one_of HT_.out (by kernel_rfl)) (by decide) (fun K hK => ?_)
  refine goes_ Tryd.func23 (by kernel_rfl) rfl #[.agg #[.bool t938, .slice Ao19 t939.length co19, .int .i64 t942], .agg #[.bool t938, .slice Ao19 t939.length co19, .int .i64 t942]] (by rfl) rfl rfl ga ?_
  with_reducible refine (dyad_Num_Sub.calls k t938 (fun k_ => (k_ ≠ gb943 ∧ (k_ ≠ gb949 ∧ (k_ ≠ gb955 ∧ (k_ ≠ gb966 ∧ k_ ≠ gb982))))) _ _ t939 t942 t938 (fun k_ => (k_ ≠ gb943 ∧ (k_ ≠ gb949 ∧ (k_ ≠ gb955 ∧ (k_ ≠ gb966 ∧ k_ ≠ gb982))))) _ _ t939 t942 t1016 t1017 t1020 _ ?side1 ?side2 ?side3 A67.out).mono ?_
  (case side1 => exact HO941.out)
  (case side2 => exact HO941.out)
  (case side3 => first | exact hT | exact TabW.drewN hT _ | exact TabW.drew hT | exact TabW.below hT bes)
  rintro e w108 ⟨v1018, rfl, ho0, hb⟩
  refine ⟨_, rfl, ?_⟩
  refine ax21 (Kd.V_below (kv HO941) hb) (Kd.V_below (kv HO947) hb) (Kd.V_below (kv HO953) hb) (Kd.V_below (kv HO959) hb) (Kd.V_below (kv HO964) hb) (Kd.V_below (kv HO970) hb) (Kd.V_below (kv HO975) hb) (Kd.V_below (kv HO980) hb) (Kd.V_below (kv HO987) hb) (Kd.V_below (kv HO992) hb) (Kd.V_below (kv HO997) hb) (Kd.V_below (kv HO1002) hb) (Kd.V_below (kv HO1008) hb) (Kd.V_below (kv HO1013) hb) (Kd.V_lower (Kd.V_mono (ok' := fun k_ => k_ ≠ gb943 ∧ k_ ≠ gb949 ∧ k_ ≠ gb955 ∧ k_ ≠ gb966 ∧ k_ ≠ gb982) ho0 (fun k_ hk_ => ⟨Or.elim hk_ (fun hs_ => Or.elim hs_ (fun hs_ => hs_.1) (fun hs_ => hs_.1)) (fun hn_ => (fb BK943 k_ hn_)), Or.elim hk_ (fun hs_ => Or.elim hs_ (fun hs_ => hs_.2.1) (fun hs_ => hs_.2.1)) (fun hn_ => (fb BK949 k_ hn_)), Or.elim hk_ (fun hs_ => Or.elim hs_ (fun hs_ => hs_.2.2.1) (fun hs_ => hs_.2.2.1)) (fun hn_ => (fb BK955 k_ hn_)), Or.elim hk_ (fun hs_ => Or.elim hs_ (fun hs_ => hs_.2.2.2.1) (fun hs_ => hs_.2.2.2.1)) (fun hn_ => (fb BK966 k_ hn_)), Or.elim hk_ (fun hs_ => Or.elim hs_ (fun hs_ => hs_.2.2.2.2) (fun hs_ => hs_.2.2.2.2)) (fun hn_ => (fb BK982 k_ hn_))⟩)) (below_size bes)) (bb BK943 hb) (bb BK949 hb) (bb BK955 hb) (bb BK966 hb) (bb BK982 hb) (below_step bes hb) ?_
  clear HO941 HO947 HO953 HO959 HO964 HO970 HO975 HO980 HO987 HO992 HO997 HO1002 HO1008 HO1013 BK943 BK949 BK955 BK966 BK982 HB
  intro HO941 HO947 HO953 HO959 HO964 HO970 HO975 HO980 HO987 HO992 HO997 HO1002 HO1008 HO1013 HO1019 BK943 BK949 BK955 BK966 BK982 HB
  (try clear hb)
  (try clear hb2)
  (try clear hk)
  (try clear hi)
  (try clear ho0)
  obtain ⟨Ao109, co109, eo109⟩ := Kd.V_slice HO1019.out
  (first | subst eo109 | (injection eo109 with f1_ f2_ f3_; have f4_ := f1_.symm; have f5_ := f3_.symm; clear f1_ f2_ f3_; subst f4_; subst f5_))
  refine hK.out _ _ ⟨(blk_cell BK966.out 0).trans rfl, (blk_cell BK966.out 1).trans rfl, (blk_cell BK966.out 2).trans rfl, (blk_cell BK982.out 0).trans rfl, (blk_cell BK982.out 1).trans rfl, (blk_cell BK982.out 2).trans rfl, (blk_cell BK943.out 0).trans rfl, (blk_cell BK943.out 1).trans rfl, (blk_cell BK943.out 2).trans rfl, (blk_cell BK949.out 0).trans rfl, (blk_cell BK949.out 1).trans rfl, (blk_cell BK949.out 2).trans rfl, (blk_cell BK955.out 0).trans rfl, (blk_cell BK955.out 1).trans rfl, (blk_cell BK955.out 2).trans rfl⟩ (fun hHeld => ?_)
  clear hK K
  refine norm_ (a' := ?_) ?_ ?_
  rotate_left
  ·
   show Act.put _ (some 60) _ = _
   simp only [Act.put, sa0, sa1, sa2, i64_w, i32_w]
   rfl
  refine one_ (i := 29) (N := some 61) #[true, true, true, true, true, true, true, true, true, true, true, true, true, true, true, true, true, true, true, true, true, true, true, true, true, true, true, true, true, true, false, false, false, false, false, false, false, false, false, false, false, false, false, false, false, false, false, false, false, false, false, false, false, false, false, false, false, false, false, false, false, false, false, false, false, false, false, false, false, false, false, false, false, false, false, false, false, false, false, false, false, false, false, false] rfl rfl (one_of HT_.out (by kernel_rfl)) (by decide) (fun K hK => ?_)
  refine goes_ Tryd.func10 (by kernel_rfl) rfl #[.agg #[.bool t1016, .slice Ao109 t1017.length co109, .int .i64 t1020]] (by rfl) rfl rfl ga ?_
  with_reducible refine (dyad_Num_Sign.calls t1016 _ _ t1017 t1020 t1021 _ ?side1 ?side2 A68.out).mono ?_
  (case side1 => exact kvs HO1019)
  (case side2 => exact (Kd.V_reads' HO1019.out).2.1)
  rintro e w110 ⟨rfl, hb⟩
  refine ⟨_, rfl, ?_⟩
  refine ax21 (Kd.V_below (kv HO941) hb) (Kd.V_below (kv HO947) hb) (Kd.V_below (kv HO953) hb) (Kd.V_below (kv HO959) hb) (Kd.V_below (kv HO964) hb) (Kd.V_below (kv HO970) hb) (Kd.V_below (kv HO975) hb) (Kd.V_below (kv HO980) hb) (Kd.V_below (kv HO987) hb) (Kd.V_below (kv HO992) hb) (Kd.V_below (kv HO997) hb) (Kd.V_below (kv HO1002) hb) (Kd.V_below (kv HO1008) hb) (Kd.V_below (kv HO1013) hb) (Kd.V_below (kv HO1019) hb) (bb BK943 hb) (bb BK949 hb) (bb BK955 hb) (bb BK966 hb) (bb BK982 hb) (below_step bes hb) ?_
  clear HO941 HO947 HO953 HO959 HO964 HO970 HO975 HO980 HO987 HO992 HO997 HO1002 HO1008 HO1013 HO1019 BK943 BK949 BK955 BK966 BK982 HB
  intro HO941 HO947 HO953 HO959 HO964 HO970 HO975 HO980 HO987 HO992 HO997 HO1002 HO1008 HO1013 HO1019 BK943 BK949 BK955 BK966 BK982 HB
  (try clear hb)
  (try clear hb2)
  (try clear hk)
  (try clear hi)
  refine hK.out _ _ ⟨(blk_cell BK966.out 0).trans rfl, (blk_cell BK966.out 1).trans rfl, (blk_cell BK966.out 2).trans rfl, (blk_cell BK982.out 0).trans rfl, (blk_cell BK982.out 1).trans rfl, (blk_cell BK982.out 2).trans rfl, (blk_cell BK943.out 0).trans rfl, (blk_cell BK943.out 1).trans rfl, (blk_cell BK943.out 2).trans rfl, (blk_cell BK949.out 0).trans rfl, (blk_cell BK949.out 1).trans rfl, (blk_cell BK949.out 2).trans rfl, (blk_cell BK955.out 0).trans rfl, (blk_cell BK955.out 1).trans rfl, (blk_cell BK955.out 2).trans rfl⟩ (fun hHeld => ?_)
  clear hK K
  refine norm_ (a' := ?_) ?_ ?_
  rotate_left
  ·
   show Act.put _ (some 61) _ = _
   simp only [Act.put, sa0, sa1, sa2, i64_w, i32_w]
   rfl
  refine pure_ (i := 30) (N := some 62) (v := ?_) (a' := ?_) #[true, true, true, true, true, true, true, true, true, true, true, true, true, true, true, true, true, true, true, true, true, true, true, true, true, true, true, true, true, true, true, false, false, false, false, false, false, false, false, false, false, false, false, false, false, false, false, false, false, false, false, false, false, false, false, false, false, false, false, false, false, false, false, false, false, false, false, false, false, false, false, false, false, false, false, false, false, false, false, false, false, false, false, false] rfl rfl (any_of HT_.out (by kernel_rfl)) (fun _ _ _ h => h) (Or.inl ⟨by rfl, ?_⟩) ?_ ?_
  rotate_left
  ·
   intro w'
   go_simp
   with_reducible rfl
  rotate_left
  ·
   simp only [Act.put, sa0, sa1, sa2, i64_w, i32_w]
   rfl
  refine pure_ (i := 31) (N := some 63) (v := ?_) (a' := ?_) #[true, true, true, true, true, true, true, true, true, true, true, true, true, true, true, true, true, true, true, true, true, true, true, true, true, true, true, true, true, true, true, true, false, false, false, false, false, false, false, false, false, false, false, false, false, false, false, false, false, false, false, false, false, false, false, false, false, false, false, false, false, false, false, false, false, false, false, false, false, false, false, false, false, false, false, false, false, false, false, false, false, false, false, false] rfl rfl (any_of HT_.out (by kernel_rfl)) (fun _ _ _ h => h) (Or.inl ⟨by rfl, ?_⟩) ?_ ?_
  rotate_left
  ·
   intro w'
   go_simp
   with_reducible rfl
  rotate_left
  ·
   simp only [Act.put, sa0, sa1, sa2, i64_w, i32_w]
   rfl
  refine pure_ (i := 32) (N := some 64) (v := ?_) (a' := ?_) #[true, true, true, true, true, true, true, true, true, true, true, true, true, true, true, true, true, true, true, true, true, true, true, true, true, true, true, true, true, true, true, true, true, false, false, false, false, false, false, false, false, false, false, false, false, false, false, false, false, false, false, false, false, false, false, false, false, false, false, false, false, false, false, false, false, false, false, false, false, false, false, false, false, false, false, false, false, false, false, false, false, false, false, false] rfl rfl (any_of HT_.out (by kernel_rfl)) (fun _ _ _ h => h) (Or.inl ⟨by rfl, ?_⟩) ?_ ?_
  rotate_left
  ·
   intro w'
   go_simp
   with_reducible rfl
  rotate_left
  ·
   simp only [Act.put, sa0, sa1, sa2, i64_w, i32_w]
   rfl
  refine take_ (i := 33) (N := some 65) (v := ?_) (a' := ?_) #[true, true, true, true, true, true, true, true, true, true, true, true, true, true, true, true, true, true, true, true, true, true, true, true, true, true, true, true, true, true, true, true, true, true, false, false, false, false, false, false, false, false, false, false, false, false, false, false, false, false, false, false, false, false, false, false, false, false, false, false, false, false, false, false, false, false, false, false, false, false, false, false, false, false, false, false, false, false, false, false, false, false, false, false] rfl rfl (take_ofW HT_.out HW_.out (by kernel_rfl)) (fun _ _ _ h => h) (Or.inl ⟨by rfl, ?_⟩) hHeld ?_ ?_
  rotate_left
  ·
   rintro w' ⟨s0, s1, s2, s3, s4, s5, s6, s7, s8, s9, s10, s11, s12, s13, s14⟩
   go_simp
   with_reducible rfl
  rotate_left
  ·
   simp only [Act.put, sa0, sa1, sa2, i64_w, i32_w]
   rfl
  refine take_ (i := 34) (N := some 66) (v := ?_) (a' := ?_) #[true, true, true, true, true, true, true, true, true, true, true, true, true, true, true, true, true, true, true, true, true, true, true, true, true, true, true, true, true, true, true, true, true, true, true, false, false, false, false, false, false, false, false, false, false, false, false, false, false, false, false, false, false, false, false, false, false, false, false, false, false, false, false, false, false, false, false, false, false, false, false, false, false, false, false, false, false, false, false, false, false, false, false, false] rfl rfl (take_ofW HT_.out HW_.out (by kernel_rfl)) (fun _ _ _ h => h) (Or.inl ⟨by rfl, ?_⟩) hHeld ?_ ?_
  rotate_left
  ·
   rintro w' ⟨s0, s1, s2, s3, s4, s5, s6, s7, s8, s9, s10, s11, s12, s13, s14⟩
   go_simp
   with_reducible rfl
  rotate_left
  ·
   simp only [Act.put, sa0, sa1, sa2, i64_w, i32_w]
   rfl
  refine take_ (i := 36) (N := some 68) (v := ?_) (a' := ?_) #[true, true, true, true, true, true, true, true, true, true, true, true, true, true, true, true, true, true, true, true, true, true, true, true, true, true, true, true, true, true, true, true, true, true, true, false, true, false, false, false, false, false, false, false, false, false, false, false, false, false, false, false, false, false, false, false, false, false, false, false, false, false, false, false, false, false, false, false, false, false, false, false, false, false, false, false, false, false, false, false, false, false, false, false] rfl rfl (take_ofW HT_.out HW_.out (by kernel_rfl)) (fun _ _ _ h => h) (Or.inl ⟨by rfl, ?_⟩) hHeld ?_ ?_
  rotate_left
  ·
   rintro w' ⟨s0, s1, s2, s3, s4, s5, s6, s7, s8, s9, s10, s11, s12, s13, s14⟩
   go_simp
   with_reducible rfl
  rotate_left
  ·
   simp only [Act.put, sa0, sa1, sa2, i64_w, i32_w]
   rfl
  refine take_ (i := 37) (N := some 69) (v := ?_) (a' := ?_) #[true, true, true, true, true, true, true, true, true, true, true, true, true, true, true, true, true, true, true, true, true, true, true, true, true, true, true, true, true, true, true, true, true, true, true, false, true, true, false, false, false, false, false, false, false, false, false, false, false, false, false, false, false, false, false, false, false, false, false, false, false, false, false, false, false, false, false, false, false, false, false, false, false, false, false, false, false, false, false, false, false, false, false, false] rfl rfl (take_ofW HT_.out HW_.out (by kernel_rfl)) (fun _ _ _ h => h) (Or.inl ⟨by rfl, ?_⟩) hHeld ?_ ?_
  rotate_left
  ·
   rintro w' ⟨s0, s1, s2, s3, s4, s5, s6, s7, s8, s9, s10, s11, s12, s13, s14⟩
   go_simp
   with_reducible rfl
  rotate_left
  ·
   simp only [Act.put, sa0, sa1, sa2, i64_w, i32_w]
   rfl
  refine one_ (i := 35) (N := some 67) #[true, true, true, true, true, true, true, true, true, true, true, true, true, true, true, true, true, true, true, true, true, true, true, true, true, true, true, true, true, true, true, true, true, true, true, true, true, true, false, false, false, false, false, false, false, false, false, false, false, false, false, false, false, false, false, false, false, false, false, false, false, false, false, false, false, false, false, false, false, false, false, false, false, false, false, false, false, false, false, false, false, false, false, false] rfl rfl (one_of HT_.out (by kernel_rfl)) (by decide) (fun K hK => ?_)
  refine goes_ Tryd.func29 (by kernel_rfl) rfl #[.agg #[.bool t938, .slice Ao19 t939.length co19, .int .i64 t942], .agg #[.bool t944, .slice Ao24 t945.length co24, .int .i64 t948]] (by rfl) rfl rfl ga ?_
  with_reducible refine (dyad_Num_Cmp.calls k t938 _ _ t939 t942 t944 _ _ t945 t948 t1022 _ ?side1 ?side2 ?side3 ?side4 ?side5 A70.out).mono ?_
  (case side1 => exact kvs HO941)
  (case side2 => exact (Kd.V_reads' HO941.out).2.1)
  (case side3 => exact kvs HO947)
  (case side4 => exact (Kd.V_reads' HO947.out).2.1)
  (case side5 => first | exact hT | exact TabW.drewN hT _ | exact TabW.drew hT | exact TabW.below hT bes)
  rintro e w111 ⟨rfl, hb⟩
  refine ⟨_, rfl, ?_⟩
  refine ax21 (Kd.V_below (kv HO941) hb) (Kd.V_below (kv HO947) hb) (Kd.V_below (kv HO953) hb) (Kd.V_below (kv HO959) hb) (Kd.V_below (kv HO964) hb) (Kd.V_below (kv HO970) hb) (Kd.V_below (kv HO975) hb) (Kd.V_below (kv HO980) hb) (Kd.V_below (kv HO987) hb) (Kd.V_below (kv HO992) hb) (Kd.V_below (kv HO997) hb) (Kd.V_below (kv HO1002) hb) (Kd.V_below (kv HO1008) hb) (Kd.V_below (kv HO1013) hb) (Kd.V_below (kv HO1019) hb) (bb BK943 hb) (bb BK949 hb) (bb BK955 hb) (bb BK966 hb) (bb BK982 hb) (below_step bes hb) ?_
  clear HO941 HO947 HO953 HO959 HO964 HO970 HO975 HO980 HO987 HO992 HO997 HO1002 HO1008 HO1013 HO1019 BK943 BK949 BK955 BK966 BK982 HB
  intro HO941 HO947 HO953 HO959 HO964 HO970 HO975 HO980 HO987 HO992 HO997 HO1002 HO1008 HO1013 HO1019 BK943 BK949 BK955 BK966 BK982 HB
  (try clear hb)
  (try clear hb2)
  (try clear hk)
  (try clear hi)
  refine hK.out _ _ ⟨(blk_cell BK966.out 0).trans rfl, (blk_cell BK966.out 1).trans rfl, (blk_cell BK966.out 2).trans rfl, (blk_cell BK982.out 0).trans rfl, (blk_cell BK982.out 1).trans rfl, (blk_cell BK982.out 2).trans rfl, (blk_cell BK943.out 0).trans rfl, (blk_cell BK943.out 1).trans rfl, (blk_cell BK943.out 2).trans rfl, (blk_cell BK949.out 0).trans rfl, (blk_cell BK949.out 1).trans rfl, (blk_cell BK949.out 2).trans rfl, (blk_cell BK955.out 0).trans rfl, (blk_cell BK955.out 1).trans rfl, (blk_cell BK955.out 2).trans rfl⟩ (fun hHeld => ?_)
  clear hK K
  refine norm_ (a' := ?_) ?_ ?_
  rotate_left
  ·
   show Act.put _ (some 67) _ = _
   simp only [Act.put, sa0, sa1, sa2, i64_w, i32_w]
   rfl
  refine one_ (i := 38) (N := some 70) #[true, true, true, true, true, true, true, true, true, true, true, true, true, true, true, true, true, true, true, true, true, true, true, true, true, true, true, true, true, true, true, true, true, true, true, true, true, true, true, false, false, false, false, false, false, false, false, false, false, false, false, false, false, false, false, false, false, false, false, false, false, false, false, false, false, false, false, false, false, false, false, false, false, false, false, false, false, false, false, false, false, false, false, false] rfl rfl (one_of HT_.out (by kernel_rfl)) (by decide) (fun K hK => ?_)
  refine goes_ Tryd.func29 (by kernel_rfl) rfl #[.agg #[.bool t944, .slice Ao24 t945.length co24, .int .i64 t948], .agg #[.bool t938, .slice Ao19 t939.length co19, .int .i64 t942]] (by rfl) rfl rfl ga ?_
  with_reducible refine (dyad_Num_Cmp.calls k t944 _ _ t945 t948 t938 _ _ t939 t942 t1023 _ ?side1 ?side2 ?side3 ?side4 ?side5 A71.out).mono ?_
  (case side1 => exact kvs HO947)
  (case side2 => exact (Kd.V_reads' HO947.out).2.1)
  (case side3 => exact kvs HO941)
  (case side4 => exact (Kd.V_reads' HO941.out).2.1)
  (case side5 => first | exact hT | exact TabW.drewN hT _ | exact TabW.drew hT | exact TabW.below hT bes)
  rintro e w112 ⟨rfl, hb⟩
  refine ⟨_, rfl, ?_⟩
  refine ax21 (Kd.V_below (kv HO941) hb) (Kd.V_below (kv HO947) hb) (Kd.V_below (kv HO953) hb) (Kd.V_below (kv HO959) hb) (Kd.V_below (kv HO964) hb) (Kd.V_below (kv HO970) hb) (Kd.V_below (kv HO975) hb) (Kd.V_below (kv HO980) hb) (Kd.V_below (kv HO987) hb) (Kd.V_below (kv HO992) hb) (Kd.V_below (kv HO997) hb) (Kd.V_below (kv HO1002) hb) (Kd.V_below (kv HO1008) hb) (Kd.V_below (kv HO1013) hb) (Kd.V_below (kv HO1019) hb) (bb BK943 hb) (bb BK949 hb) (bb BK955 hb) (bb BK966 hb) (bb BK982 hb) (below_step bes hb) ?_
  clear HO941 HO947 HO953 HO959 HO964 HO970 HO975 HO980 HO987 HO992 HO997 HO1002 HO1008 HO1013 HO1019 BK943 BK949 BK955 BK966 BK982 HB
  intro HO941 HO947 HO953 HO959 HO964 HO970 HO975 HO980 HO987 HO992 HO997 HO1002 HO1008 HO1013 HO1019 BK943 BK949 BK955 BK966 BK982 HB
  (try clear hb)
  (try clear hb2)
  (try clear hk)
  (try clear hi)
  refine hK.out _ _ ⟨(blk_cell BK966.out 0).trans rfl, (blk_cell BK966.out 1).trans rfl, (blk_cell BK966.out 2).trans rfl, (blk_cell BK982.out 0).trans rfl, (blk_cell BK982.out 1).trans rfl, (blk_cell BK982.out 2).trans rfl, (blk_cell BK943.out 0).trans rfl, (blk_cell BK943.out 1).trans rfl, (blk_cell BK943.out 2).trans rfl, (blk_cell BK949.out 0).trans rfl, (blk_cell BK949.out 1).trans rfl, (blk_cell BK949.out 2).trans rfl, (blk_cell BK955.out 0).trans rfl, (blk_cell BK955.out 1).trans rfl, (blk_cell BK955.out 2).trans rfl⟩ (fun hHeld => ?_)
  clear hK K
  refine norm_ (a' := ?_) ?_ ?_
  rotate_left
  ·
   show Act.put _ (some 70) _ = _
   simp only [Act.put, sa0, sa1, sa2, i64_w, i32_w]
   rfl
  refine pure_ (i := 39) (N := some 71) (v := ?_) (a' := ?_) #[true, true, true, true, true, true, true, true, true, true, true, true, true, true, true, true, true, true, true, true, true, true, true, true, true, true, true, true, true, true, true, true, true, true, true, true, true, true, true, true, false, false, false, false, false, false, false, false, false, false, false, false, false, false, false, false, false, false, false, false, false, false, false, false, false, false, false, false, false, false, false, false, false, false, false, false, false, false, false, false, false, false, false, false] rfl rfl (any_of HT_.out (by kernel_rfl)) (fun _ _ _ h => h) (Or.inl ⟨by rfl, ?_⟩) ?_ ?_
  rotate_left
  ·
   intro w'
   go_simp
   with_reducible rfl
  rotate_left
  ·
   simp only [Act.put, sa0, sa1, sa2, i64_w, i32_w]
   rfl
  refine pure_ (i := 40) (N := some 72) (v := ?_) (a' := ?_) #[true, true, true, true, true, true, true, true, true, true, true, true, true, true, true, true, true, true, true, true, true, true, true, true, true, true, true, true, true, true, true, true, true, true, true, true, true, true, true, true, true, false, false, false, false, false, false, false, false, false, false, false, false, false, false, false, false, false, false, false, false, false, false, false, false, false, false, false, false, false, false, false, false, false, false, false, false, false, false, false, false, false, false, false] rfl rfl (any_of HT_.out (by kernel_rfl)) (fun _ _ _ h => h) (Or.inl ⟨by rfl, ?_⟩) ?_ ?_
  rotate_left
  ·
   intro w'
   go_simp
   with_reducible rfl
  rotate_left
  ·
   simp only [Act.put, sa0, sa1, sa2, i64_w, i32_w]
   rfl
  refine pure_ (i := 41) (N := some 73) (v := ?_) (a' := ?_) #[true, true, true, true, true, true, true, true, true, true, true, true, true, true, true, true, true, true, true, true, true, true, true, true, true, true, true, true, true, true, true, true, true, true, true, true, true, true, true, true, true, true, false, false, false, false, false, false, false, false, false, false, false, false, false, false, false, false, false, false, false, false, false, false, false, false, false, false, false, false, false, false, false, false, false, false, false, false, false, false, false, false, false, false] rfl rfl (any_of HT_.out (by kernel_rfl)) (fun _ _ _ h => h) (Or.inl ⟨by rfl, ?_⟩) ?_ ?_
  rotate_left
  ·
   intro w'
   go_simp
   with_reducible rfl
  rotate_left
  ·
   simp only [Act.put, sa0, sa1, sa2, i64_w, i32_w]
   rfl
  refine pure_ (i := 42) (N := some 74) (v := ?_) (a' := ?_) #[true, true, true, true, true, true, true, true, true, true, true, true, true, true, true, true, true, true, true, true, true, true, true, true, true, true, true, true, true, true, true, true, true, true, true, true, true, true, true, true, true, true, true, false, false, false, false, false, false, false, false, false, false, false, false, false, false, false, false, false, false, false, false, false, false, false, false, false, false, false, false, false, false, false, false, false, false, false, false, false, false, false, false, false] rfl rfl (any_of HT_.out (by kernel_rfl)) (fun _ _ _ h => h) (Or.inl ⟨by rfl, ?_⟩) ?_ ?_
  rotate_left
  ·
   intro w'
   go_simp
   with_reducible rfl
  rotate_left
  ·
   simp only [Act.put, sa0, sa1, sa2, i64_w, i32_w]
   rfl
  refine take_ (i := 43) (N := some 75) (v := ?_) (a' := ?_) #[true, true, true, true, true, true, true, true, true, true, true, true, true, true, true, true, true, true, true, true, true, true, true, true, true, true, true, true, true, true, true, true, true, true, true, true, true, true, true, true, true, true, true, true, false, false, false, false, false, false, false, false, false, false, false, false, false, false, false, false, false, false, false, false, false, false, false, false, false, false, false, false, false, false, false, false, false, false, false, false, false, false, false, false] rfl rfl (take_ofW HT_.out HW_.out (by kernel_rfl)) (fun _ _ _ h => h) (Or.inl ⟨by rfl, ?_⟩) hHeld ?_ ?_
  rotate_left
  ·
   rintro w' ⟨s0, s1, s2, s3, s4, s5, s6, s7, s8, s9, s10, s11, s12, s13, s14⟩
   go_simp
   with_reducible rfl
  rotate_left
  ·
   simp only [Act.put, sa0, sa1, sa2, i64_w, i32_w]
   rfl
  refine take_ (i := 44) (N := some 76) (v := ?_) (a' := ?_) #[true, true, true, true, true, true, true, true, true, true, true, true, true, true, true, true, true, true, true, true, true, true, true, true, true, true, true, true, true, true, true, true, true, true, true, true, true, true, true, true, true, true, true, true, true, false, false, false, false, false, false, false, false, false, false, false, false, false, false, false, false, false, false, false, false, false, false, false, false, false, false, false, false, false, false, false, false, false, false, false, false, false, false, false] rfl rfl (take_ofW HT_.out HW_.out (by kernel_rfl)) (fun _ _ _ h => h) (Or.inl ⟨by rfl, ?_⟩) hHeld ?_ ?_
  rotate_left
  ·
   rintro w' ⟨s0, s1, s2, s3, s4, s5, s6, s7, s8, s9, s10, s11, s12, s13, s14⟩
   go_simp
   with_reducible rfl
  rotate_left
  ·
   simp only [Act.put, sa0, sa1, sa2, i64_w, i32_w]
   rfl
  refine take_ (i := 47) (N := some 79) (v := ?_) (a' := ?_) #[true, true, true, true, true, true, true, true, true, true, true, true, true, true, true, true, true, true, true, true, true, true, true, true, true, true, true, true, true, true, true, true, true, true, true, true, true, true, true, true, true, true, true, true, true, false, false, true, false, false, false, false, false, false, false, false, false, false, false, false, false, false, false, false, false, false, false, false, false, false, false, false, false, false, false, false, false, false, false, false, false, false, false, false] rfl rfl (take_ofW HT_.out HW_.out (by kernel_rfl)) (fun _ _ _ h => h) (Or.inl ⟨by rfl, ?_⟩) hHeld ?_ ?_
  rotate_left
  ·
   rintro w' ⟨s0, s1, s2, s3, s4, s5, s6, s7, s8, s9, s10, s11, s12, s13, s14⟩
   go_simp
   with_reducible rfl
  rotate_left
  ·
   simp only [Act.put, sa0, sa1, sa2, i64_w, i32_w]
   rfl
  refine take_ (i := 48) (N := some 80) (v := ?_) (a' := ?_) #[true, true, true, true, true, true, true, true, true, true, true, true, true, true, true, true, true, true, true, true, true, true, true, true, true, true, true, true, true, true, true, true, true, true, true, true, true, true, true, true, true, true, true, true, true, false, false, true, true, false, false, false, false, false, false, false, false, false, false, false, false, false, false, false, false, false, false, false, false, false, false, false, false, false, false, false, false, false, false, false, false, false, false, false] rfl rfl (take_ofW HT_.out HW_.out (by kernel_rfl)) (fun _ _ _ h => h) (Or.inl ⟨by rfl, ?_⟩) hHeld ?_ ?_
  rotate_left
  ·
   rintro w' ⟨s0, s1, s2, s3, s4, s5, s6, s7, s8, s9, s10, s11, s12, s13, s14⟩
   go_simp
   with_reducible rfl
  rotate_left
  ·
   simp only [Act.put, sa0, sa1, sa2, i64_w, i32_w]
   rfl
  refine one_ (i := 45) (N := some 77) #[true, true, true, true, true, true, true, true, true, true, true, true, true, true, true, true, true, true, true, true, true, true, true, true, true, true, true, true, true, true, true, true, true, true, true, true, true, true, true, true, true, true, true, true, true, true, false, true, true, false, false, false, false, false, false, false, false, false, false, false, false, false, false, false, false, false, false, false, false, false, false, false, false, false, false, false, false, false, false, false, false, false, false, false] rfl rfl (one_of HT_.out (by kernel_rfl)) (by decide) (fun K hK => ?_)
  refine goes_ Tryd.func29 (by kernel_rfl) rfl #[.agg #[.bool t938, .slice Ao19 t939.length co19, .int .i64 t942], .agg #[.bool t944, .slice Ao24 t945.length co24, .int .i64 t948]] (by rfl) rfl rfl ga ?_
  with_reducible refine (dyad_Num_Cmp.calls k t938 _ _ t939 t942 t944 _ _ t945 t948 t1024 _ ?side1 ?side2 ?side3 ?side4 ?side5 A73.out).mono ?_
  (case side1 => exact kvs HO941)
  (case side2 => exact (Kd.V_reads' HO941.out).2.1)
  (case side3 => exact kvs HO947)
  (case side4 => exact (Kd.V_reads' HO947.out).2.1)
  (case side5 => first | exact hT | exact TabW.drewN hT _ | exact TabW.drew hT | exact TabW.below hT bes)
  rintro e w113 ⟨rfl, hb⟩
  refine ⟨_, rfl, ?_⟩
  refine ax21 (Kd.V_below (kv HO941) hb) (Kd.V_below (kv HO947) hb) (Kd.V_below (kv HO953) hb) (Kd.V_below (kv HO959) hb) (Kd.V_below (kv HO964) hb) (Kd.V_below (kv HO970) hb) (Kd.V_below (kv HO975) hb) (Kd.V_below (kv HO980) hb) (Kd.V_below (kv HO987) hb) (Kd.V_below (kv HO992) hb) (Kd.V_below (kv HO997) hb) (Kd.V_below (kv HO1002) hb) (Kd.V_below (kv HO1008) hb) (Kd.V_below (kv HO1013) hb) (Kd.V_below (kv HO1019) hb) (bb BK943 hb) (bb BK949 hb) (bb BK955 hb) (bb BK966 hb) (bb BK982 hb) (below_step bes hb) ?_
  clear HO941 HO947 HO953 HO959 HO964 HO970 HO975 HO980 HO987 HO992 HO997 HO1002 HO1008 HO1013 HO1019 BK943 BK949 BK955 BK966 BK982 HB
  intro HO941 HO947 HO953 HO959 HO964 HO970 HO975 HO980 HO987 HO992 HO997 HO1002 HO1008 HO1013 HO1019 BK943 BK949 BK955 BK966 BK982 HB
  (try clear hb)
  (try clear hb2)
  (try clear hk)
  (try clear hi)
  refine hK.out _ _ ⟨(blk_cell BK966.out 0).trans rfl, (blk_cell BK966.out 1).trans rfl, (blk_cell BK966.out 2).trans rfl, (blk_cell BK982.out 0).trans rfl, (blk_cell BK982.out 1).trans rfl, (blk_cell BK982.out 2).trans rfl, (blk_cell BK943.out 0).trans rfl, (blk_cell BK943.out 1).trans rfl, (blk_cell BK943.out 2).trans rfl, (blk_cell BK949.out 0).trans rfl, (blk_cell BK949.out 1).trans rfl, (blk_cell BK949.out 2).trans rfl, (blk_cell BK955.out 0).trans rfl, (blk_cell BK955.out 1).trans rfl, (blk_cell BK955.out 2).trans rfl⟩ (fun hHeld => ?_)
  clear hK K
  refine norm_ (a' := ?_) ?_ ?_
  rotate_left
  ·
   show Act.put _ (some 77) _ = _
   simp only [Act.put, sa0, sa1, sa2, i64_w, i32_w]
   rfl
  refine pure_ (i := 46) (N := some 78) (v := ?_) (a' := ?_) #[true, true, true, true, true, true, true, true, true, true, true, true, true, true, true, true, true, true, true, true, true, true, true, true, true, true, true, true, true, true, true, true, true, true, true, true, true, true, true, true, true, true, true, true, true, true, true, true, true, false, false, false, false, false, false, false, false, false, false, false, false, false, false, false, false, false, false, false, false, false, false, false, false, false, false, false, false, false, false, false, false, false, false, false] rfl rfl (any_of HT_.out (by kernel_rfl)) (fun _ _ _ h => h) (Or.inl ⟨by rfl, ?_⟩) ?_ ?_
  rotate_left
  ·
   intro w'
   go_simp
   with_reducible rfl
  rotate_left
  ·
   simp only [Act.put, sa0, sa1, sa2, i64_w, i32_w]
   rfl
  refine one_ (i := 49) (N := some 81) #[true, true, true, true, true, true, true, true, true, true, true, true, true, true, true, true, true, true, true, true, true, true, true, true, true, true, true, true, true, true, true, true, true, true, true, true, true, true, true, true, true, true, true, true, true, true, true, true, true, true, false, false, false, false, false, false, false, false, false, false, false, false, false, false, false, false, false, false, false, false, false, false, false, false, false, false, false, false, false, false, false, false, false, false] rfl rfl (one_of HT_.out (by kernel_rfl)) (by decide) (fun K hK => ?_)
  refine goes_ Tryd.func28 (by kernel_rfl) rfl #[.agg #[.bool t938, .slice Ao19 t939.length co19, .int .i64 t942], .agg #[.bool t944, .slice Ao24 t945.length co24, .int .i64 t948]] (by rfl) rfl rfl ga ?_
  with_reducible refine (dyad_Num_Same.calls k t938 _ _ t939 t942 t944 _ _ t945 t948 t1025 _ ?side1 ?side2 ?side3 ?side4 A74.out).mono ?_
  (case side1 => exact kvs HO941)
  (case side2 => exact (Kd.V_reads' HO941.out).2.1)
  (case side3 => exact kvs HO947)
  (case side4 => exact (Kd.V_reads' HO947.out).2.1)
  rintro e w114 ⟨rfl, hb⟩
  refine ⟨_, rfl, ?_⟩
  refine ax21 (Kd.V_below (kv HO941) hb) (Kd.V_below (kv HO947) hb) (Kd.V_below (kv HO953) hb) (Kd.V_below (kv HO959) hb) (Kd.V_below (kv HO964) hb) (Kd.V_below (kv HO970) hb) (Kd.V_below (kv HO975) hb) (Kd.V_below (kv HO980) hb) (Kd.V_below (kv HO987) hb) (Kd.V_below (kv HO992) hb) (Kd.V_below (kv HO997) hb) (Kd.V_below (kv HO1002) hb) (Kd.V_below (kv HO1008) hb) (Kd.V_below (kv HO1013) hb) (Kd.V_below (kv HO1019) hb) (bb BK943 hb) (bb BK949 hb) (bb BK955 hb) (bb BK966 hb) (bb BK982 hb) (below_step bes hb) ?_
  clear HO941 HO947 HO953 HO959 HO964 HO970 HO975 HO980 HO987 HO992 HO997 HO1002 HO1008 HO1013 HO1019 BK943 BK949 BK955 BK966 BK982 HB
  intro HO941 HO947 HO953 HO959 HO964 HO970 HO975 HO980 HO987 HO992 HO997 HO1002 HO1008 HO1013 HO1019 BK943 BK949 BK955 BK966 BK982 HB
  (try clear hb)
  (try clear hb2)
  (try clear hk)
  (try clear hi)
  refine hK.out _ _ ⟨(blk_cell BK966.out 0).trans rfl, (blk_cell BK966.out 1).trans rfl, (blk_cell BK966.out 2).trans rfl, (blk_cell BK982.out 0).trans rfl, (blk_cell BK982.out 1).trans rfl, (blk_cell BK982.out 2).trans rfl, (blk_cell BK943.out 0).trans rfl, (blk_cell BK943.out 1).trans rfl, (blk_cell BK943.out 2).trans rfl, (blk_cell BK949.out 0).trans rfl, (blk_cell BK949.out 1).trans rfl, (blk_cell BK949.out 2).trans rfl, (blk_cell BK955.out 0).trans rfl, (blk_cell BK955.out 1).trans rfl, (blk_cell BK955.out 2).trans rfl⟩ (fun hHeld => ?_)
  clear hK K
  refine norm_ (a' := ?_) ?_ ?_
  rotate_left
  ·
   show Act.put _ (some 81) _ = _
   simp only [Act.put, sa0, sa1, sa2, i64_w, i32_w]
   rfl
  refine pure_ (i := 50) (N := some 82) (v := ?_) (a' := ?_) #[true, true, true, true, true, true, true, true, true, true, true, true, true, true, true, true, true, true, true, true, true, true, true, true, true, true, true, true, true, true, true, true, true, true, true, true, true, true, true, true, true, true, true, true, true, true, true, true, true, true, true, false, false, false, false, false, false, false, false, false, false, false, false, false, false, false, false, false, false, false, false, false, false, false, false, false, false, false, false, false, false, false, false, false] rfl rfl (any_of HT_.out (by kernel_rfl)) (fun _ _ _ h => h) (Or.inl ⟨by rfl, ?_⟩) ?_ ?_
  rotate_left
  ·
   intro w'
   go_simp
   with_reducible rfl
  rotate_left
  ·
   simp only [Act.put, sa0, sa1, sa2, i64_w, i32_w]
   rfl
  refine pure_ (i := 51) (N := some 83) (v := ?_) (a' := ?_) #[true, true, true, true, true, true, true, true, true, true, true, true, true, true, true, true, true, true, true, true, true, true, true, true, true, true, true, true, true, true, true, true, true, true, true, true, true, true, true, true, true, true, true, true, true, true, true, true, true, true, true, true, false, false, false, false, false, false, false, false, false, false, false, false, false, false, false, false, false, false, false, false, false, false, false, false, false, false, false, false, false, false, false, false] rfl rfl (any_of HT_.out (by kernel_rfl)) (fun _ _ _ h => h) (Or.inl ⟨by rfl, ?_⟩) ?_ ?_
  rotate_left
  ·
   intro w'
   go_simp
   with_reducible rfl
  rotate_left
  ·
   simp only [Act.put, sa0, sa1, sa2, i64_w, i32_w]
   rfl
  refine pure_ (i := 52) (N := some 84) (v := ?_) (a' := ?_) #[true, true, true, true, true, true, true, true, true, true, true, true, true, true, true, true, true, true, true, true, true, true, true, true, true, true, true, true, true, true, true, true, true, true, true, true, true, true, true, true, true, true, true, true, true, true, true, true, true, true, true, true, true, false, false, false, false, false, false, false, false, false, false, false, false, false, false, false, false, false, false, false, false, false, false, false, false, false, false, false, false, false, false, false] rfl rfl (any_of HT_.out (by kernel_rfl)) (fun _ _ _ h => h) (Or.inl ⟨by rfl, ?_⟩) ?_ ?_
  rotate_left
  ·
   intro w'
   go_simp
   with_reducible rfl
  rotate_left
  ·
   simp only [Act.put, sa0, sa1, sa2, i64_w, i32_w]
   rfl
  refine take_ (i := 53) (N := some 85) (v := ?_) (a' := ?_) #[true, true, true, true, true, true, true, true, true, true, true, true, true, true, true, true, true, true, true, true, true, true, true, true, true, true, true, true, true, true, true, true, true, true, true, true, true, true, true, true, true, true, true, true, true, true, true, true, true, true, true, true, true, true, false, false, false, false, false, false, false, false, false, false, false, false, false, false, false, false, false, false, false, false, false, false, false, false, false, false, false, false, false, false] rfl rfl (take_ofW HT_.out HW_.out (by kernel_rfl)) (fun _ _ _ h => h) (Or.inl ⟨by rfl, ?_⟩) hHeld ?_ ?_
  rotate_left
  ·
   rintro w' ⟨s0, s1, s2, s3, s4, s5, s6, s7, s8, s9, s10, s11, s12, s13, s14⟩
   go_simp
   with_reducible rfl
  rotate_left
  ·
   simp only [Act.put, sa0, sa1, sa2, i64_w, i32_w]
   rfl
  refine one_ (i := 54) (N := some 86) #[true, true, true, true, true, true, true, true, true, true, true, true, true, true, true, true, true, true, true, true, true, true, true, true, true, true, true, true, true, true, true, true, true, true, true, true, true, true, true, true, true, true, true, true, true, true, true, true, true, true, true, true, true, true, true, false, false, false, false, false, false, false, false, false, false, false, false, false, false, false, false, false, false, false, false, false, false, false, false, false, false, false, false, false] rfl rfl (one_of HT_.out (by kernel_rfl)) (by decide) (fun K hK => ?_)
  refine goes_ Tryd.func30 (by kernel_rfl) rfl #[.agg #[.bool t938, .slice Ao19 t939.length co19, .int .i64 t942]] (by rfl) rfl rfl ga ?_
  with_reducible refine (dyad_Num_Abs.calls t938 (fun k_ => (k_ ≠ gb943 ∧ (k_ ≠ gb949 ∧ (k_ ≠ gb955 ∧ (k_ ≠ gb966 ∧ k_ ≠ gb982))))) _ _ t939 t942 t1026 t1027 t1030 _ ?side1 A76.out).mono ?_
  (case side1 => exact HO941.out)
  rintro e w115 ⟨v1028, rfl, ho0, hb⟩
  refine ⟨_, rfl, ?_⟩
  refine ax22 (Kd.V_below (kv HO941) hb) (Kd.V_below (kv HO947) hb) (Kd.V_below (kv HO953) hb) (Kd.V_below (kv HO959) hb) (Kd.V_below (kv HO964) hb) (Kd.V_below (kv HO970) hb) (Kd.V_below (kv HO975) hb) (Kd.V_below (kv HO980) hb) (Kd.V_below (kv HO987) hb) (Kd.V_below (kv HO992) hb) (Kd.V_below (kv HO997) hb) (Kd.V_below (kv HO1002) hb) (Kd.V_below (kv HO1008) hb) (Kd.V_below (kv HO1013) hb) (Kd.V_below (kv HO1019) hb) (Kd.V_lower (Kd.V_mono (ok' := fun k_ => k_ ≠ gb943 ∧ k_ ≠ gb949 ∧ k_ ≠ gb955 ∧ k_ ≠ gb966 ∧ k_ ≠ gb982) ho0 (fun k_ hk_ => ⟨Or.elim hk_ (fun hs_ => hs_.1) (fun hn_ => (fb BK943 k_ hn_)), Or.elim hk_ (fun hs_ => hs_.2.1) (fun hn_ => (fb BK949 k_ hn_)), Or.elim hk_ (fun hs_ => hs_.2.2.1) (fun hn_ => (fb BK955 k_ hn_)), Or.elim hk_ (fun hs_ => hs_.2.2.2.1) (fun hn_ => (fb BK966 k_ hn_)), Or.elim hk_ (fun hs_ => hs_.2.2.2.2) (fun hn_ => (fb BK982 k_ hn_))⟩)) (below_size bes)) (bb BK943 hb) (bb BK949 hb) (bb BK955 hb) (bb BK966 hb) (bb BK982 hb) (below_step bes hb) ?_
  clear HO941 HO947 HO953 HO959 HO964 HO970 HO975 HO980 HO987 HO992 HO997 HO1002 HO1008 HO1013 HO1019 BK943 BK949 BK955 BK966 BK982 HB
  intro HO941 HO947 HO953 HO959 HO964 HO970 HO975 HO980 HO987 HO992 HO997 HO1002 HO1008 HO1013 HO1019 HO1029 BK943 BK949 BK955 BK966 BK982 HB
  (try clear hb)
  (try clear hb2)
  (try clear hk)
  (try clear hi)
  (try clear ho0)
  obtain ⟨Ao116, co116, eo116⟩ := Kd.V_slice HO1029.out
  (first | subst eo116 | (injection eo116 with f1_ f2_ f3_; have f4_ := f1_.symm; have f5_ := f3_.symm; clear f1_ f2_ f3_; subst f4_; subst f5_))
  refine hK.out _ _ ⟨(blk_cell BK966.out 0).trans rfl, (blk_cell BK966.out 1).trans rfl, (blk_cell BK966.out 2).trans rfl, (blk_cell BK982.out 0).trans rfl, (blk_cell BK982.out 1).trans rfl, (blk_cell BK982.out 2).trans rfl, (blk_cell BK943.out 0).trans rfl, (blk_cell BK943.out 1).trans rfl, (blk_cell BK943.out 2).trans rfl, (blk_cell BK949.out 0).trans rfl, (blk_cell BK949.out 1).trans rfl, (blk_cell BK949.out 2).trans rfl, (blk_cell BK955.out 0).trans rfl, (blk_cell BK955.out 1).trans rfl, (blk_cell BK955.out 2).trans rfl⟩ (fun hHeld => ?_)
  clear hK K
  refine norm_ (a' := ?_) ?_ ?_
  rotate_left
  ·
   show Act.put _ (some 86) _ = _
   simp only [Act.put, sa0, sa1, sa2, i64_w, i32_w]
   rfl
  refine one_ (i := 55) (N := some 87) #[true, true, true, true, true, true, true, true, true, true, true, true, true, true, true, true, true, true, true, true, true, true, true, true, true, true, true, true, true, true, true, true, true, true, true, true, true, true, true, true, true, true, true, true, true, true, true, true, true, true, true, true, true, true, true, true, false, false, false, false, false, false, false, false, false, false, false, false, false, false, false, false, false, false, false, false, false, false, false, false, false, false, false, false] rfl rfl (one_of HT_.out (by kernel_rfl)) (by decide) (fun K hK => ?_)
  refine goes_ Tryd.func10 (by kernel_rfl) rfl #[.agg #[.bool t1026, .slice Ao116 t1027.length co116, .int .i64 t1030]] (by rfl) rfl rfl ga ?_
  with_reducible refine (dyad_Num_Sign.calls t1026 _ _ t1027 t1030 t1031 _ ?side1 ?side2 A77.out).mono ?_
  (case side1 => exact kvs HO1029)
  (case side2 => exact (Kd.V_reads' HO1029.out).2.1)
  rintro e w117 ⟨rfl, hb⟩
  refine ⟨_, rfl, ?_⟩
  refine ax22 (Kd.V_below (kv HO941) hb) (Kd.V_below (kv HO947) hb) (Kd.V_below (kv HO953) hb) (Kd.V_below (kv HO959) hb) (Kd.V_below (kv HO964) hb) (Kd.V_below (kv HO970) hb) (Kd.V_below (kv HO975) hb) (Kd.V_below (kv HO980) hb) (Kd.V_below (kv HO987) hb) (Kd.V_below (kv HO992) hb) (Kd.V_below (kv HO997) hb) (Kd.V_below (kv HO1002) hb) (Kd.V_below (kv HO1008) hb) (Kd.V_below (kv HO1013) hb) (Kd.V_below (kv HO1019) hb) (Kd.V_below (kv HO1029) hb) (bb BK943 hb) (bb BK949 hb) (bb BK955 hb) (bb BK966 hb) (bb BK982 hb) (below_step bes hb) ?_
  clear HO941 HO947 HO953 HO959 HO964 HO970 HO975 HO980 HO987 HO992 HO997 HO1002 HO1008 HO1013 HO1019 HO1029 BK943 BK949 BK955 BK966 BK982 HB
  intro HO941 HO947 HO953 HO959 HO964 HO970 HO975 HO980 HO987 HO992 HO997 HO1002 HO1008 HO1013 HO1019 HO1029 BK943 BK949 BK955 BK966 BK982 HB
  (try clear hb)
  (try clear hb2)
  (try clear hk)
  (try clear hi)
  refine hK.out _ _ ⟨(blk_cell BK966.out 0).trans rfl, (blk_cell BK966.out 1).trans rfl, (blk_cell BK966.out 2).trans rfl, (blk_cell BK982.out 0).trans rfl, (blk_cell BK982.out 1).trans rfl, (blk_cell BK982.out 2).trans rfl, (blk_cell BK943.out 0).trans rfl, (blk_cell BK943.out 1).trans rfl, (blk_cell BK943.out 2).trans rfl, (blk_cell BK949.out 0).trans rfl, (blk_cell BK949.out 1).trans rfl, (blk_cell BK949.out 2).trans rfl, (blk_cell BK955.out 0).trans rfl, (blk_cell BK955.out 1).trans rfl, (blk_cell BK955.out 2).trans rfl⟩ (fun hHeld => ?_)
  clear hK K
  refine norm_ (a' := ?_) ?_ ?_
  rotate_left
  ·
   show Act.put _ (some 87) _ = _
   simp only [Act.put, sa0, sa1, sa2, i64_w, i32_w]
   rfl
  refine pure_ (i := 56) (N := some 88) (v := ?_) (a' := ?_) #[true, true, true, true, true, true, true, true, true, true, true, true, true, true, true, true, true, true, true, true, true, true, true, true, true, true, true, true, true, true, true, true, true, true, true, true, true, true, true, true, true, true, true, true, true, true, true, true, true, true, true, true, true, true, true, true, true, false, false, false, false, false, false, false, false, false, false, false, false, false, false, false, false, false, false, false, false, false, false, false, false, false, false, false] rfl rfl (any_of HT_.out (by kernel_rfl)) (fun _ _ _ h => h) (Or.inl ⟨by rfl, ?_⟩) ?_ ?_
  rotate_left
  ·
   intro w'
   go_simp
   with_reducible rfl
  rotate_left
  ·
   simp only [Act.put, sa0, sa1, sa2, i64_w, i32_w]
   rfl
  refine pure_ (i := 57) (N := some 89) (v := ?_) (a' := ?_) #[true, true, true, true, true, true, true, true, true, true, true, true, true, true, true, true, true, true, true, true, true, true, true, true, true, true, true, true, true, true, true, true, true, true, true, true, true, true, true, true, true, true, true, true, true, true, true, true, true, true, true, true, true, true, true, true, true, true, false, false, false, false, false, false, false, false, false, false, false, false, false, false, false, false, false, false, false, false, false, false, false, false, false, false] rfl rfl (any_of HT_.out (by kernel_rfl)) (fun _ _ _ h => h) (Or.inl ⟨by rfl, ?_⟩) ?_ ?_
  rotate_left
  ·
   intro w'
   go_simp
   with_reducible rfl
  rotate_left
  ·
   simp only [Act.put, sa0, sa1, sa2, i64_w, i32_w]
   rfl
  refine pure_ (i := 58) (N := some 90) (v := ?_) (a' := ?_) #[true, true, true, true, true, true, true, true, true, true, true, true, true, true, true, true, true, true, true, true, true, true, true, true, true, true, true, true, true, true, true, true, true, true, true, true, true, true, true, true, true, true, true, true, true, true, true, true, true, true, true, true, true, true, true, true, true, true, true, false, false, false, false, false, false, false, false, false, false, false, false, false, false, false, false, false, false, false, false, false, false, false, false, false] rfl rfl (any_of HT_.out (by kernel_rfl)) (fun _ _ _ h => h) (Or.inl ⟨by rfl, ?_⟩) ?_ ?_
  rotate_left
  ·
   intro w'
   go_simp
   with_reducible rfl
  rotate_left
  ·
   simp only [Act.put, sa0, sa1, sa2, i64_w, i32_w]
   rfl
  refine take_ (i := 59) (N := some 91) (v := ?_) (a' := ?_) #[true, true, true, true, true, true, true, true, true, true, true, true, true, true, true, true, true, true, true, true, true, true, true, true, true, true, true, true, true, true, true, true, true, true, true, true, true, true, true, true, true, true, true, true, true, true, true, true, true, true, true, true, true, true, true, true, true, true, true, true, false, false, false, false, false, false, false, false, false, false, false, false, false, false, false, false, false, false, false, false, false, false, false, false] rfl rfl (take_ofW HT_.out HW_.out (by kernel_rfl)) (fun _ _ _ h => h) (Or.inl ⟨by rfl, ?_⟩) hHeld ?_ ?_
  rotate_left
  ·
   rintro w' ⟨s0, s1, s2, s3, s4, s5, s6, s7, s8, s9, s10, s11, s12, s13, s14⟩
   go_simp
   with_reducible rfl
  rotate_left
  ·
   simp only [Act.put, sa0, sa1, sa2, i64_w, i32_w]
   rfl
  refine take_ (i := 62) (N := some 94) (v := ?_) (a' := ?_) #[true, true, true, true, true, true, true, true, true, true, true, true, true, true, true, true, true, true, true, true, true, true, true, true, true, true, true, true, true, true, true, true, true, true, true, true, true, true, true, true, true, true, true, true, true, true, true, true, true, true, true, true, true, true, true, true, true, true, true, true, false, false, true, false, false, false, false, false, false, false, false, false, false, false, false, false, false, false, false, false, false, false, false, false] rfl rfl (take_ofW HT_.out HW_.out (by kernel_rfl)) (fun _ _ _ h => h) (Or.inl ⟨by rfl, ?_⟩) hHeld ?_ ?_
  rotate_left
  ·
   rintro w' ⟨s0, s1, s2, s3, s4, s5, s6, s7, s8, s9, s10, s11, s12, s13, s14⟩
   go_simp
   with_reducible rfl
  rotate_left
  ·
   simp only [Act.put, sa0, sa1, sa2, i64_w, i32_w]
   rfl
  refine one_ (i := 60) (N := some 92) #[true, true, true, true, true, true, true, true, true, true, true, true, true, true, true, true, true, true, true, true, true, true, true, true, true, true, true, true, true, true, true, true, true, true, true, true, true, true, true, true, true, true, true, true, true, true, true, true, true, true, true, true, true, true, true, true, true, true, true, true, true, false, true, false, false, false, false, false, false, false, false, false, false, false, false, false, false, false, false, false, false, false, false, false] rfl rfl (one_of HT_.out (by kernel_rfl)) (by decide) (fun K hK => ?_)
  refine goes_ Tryd.func26 (by kernel_rfl) rfl #[.agg #[.bool t938, .slice Ao19 t939.length co19, .int .i64 t942]] (by rfl) rfl rfl ga ?_
  with_reducible refine (dyad_Num_Neg.calls t938 (fun k_ => (k_ ≠ gb943 ∧ (k_ ≠ gb949 ∧ (k_ ≠ gb955 ∧ (k_ ≠ gb966 ∧ k_ ≠ gb982))))) _ _ t939 t942 t1032 t1033 t1036 _ ?side1 A79.out).mono ?_
  (case side1 => exact HO941.out)
  rintro e w118 ⟨v1034, rfl, ho0, hb⟩
  refine ⟨_, rfl, ?_⟩
  refine ax23 (Kd.V_below (kv HO941) hb) (Kd.V_below (kv HO947) hb) (Kd.V_below (kv HO953) hb) (Kd.V_below (kv HO959) hb) (Kd.V_below (kv HO964) hb) (Kd.V_below (kv HO970) hb) (Kd.V_below (kv HO975) hb) (Kd.V_below (kv HO980) hb) (Kd.V_below (kv HO987) hb) (Kd.V_below (kv HO992) hb) (Kd.V_below (kv HO997) hb) (Kd.V_below (kv HO1002) hb) (Kd.V_below (kv HO1008) hb) (Kd.V_below (kv HO1013) hb) (Kd.V_below (kv HO1019) hb) (Kd.V_below (kv HO1029) hb) (Kd.V_lower (Kd.V_mono (ok' := fun k_ => k_ ≠ gb943 ∧ k_ ≠ gb949 ∧ k_ ≠ gb955 ∧ k_ ≠ gb966 ∧ k_ ≠ gb982) ho0 (fun k_ hk_ => ⟨Or.elim hk_ (fun hs_ => hs_.1) (fun hn_ => (fb BK943 k_ hn_)), Or.elim hk_ (fun hs_ => hs_.2.1) (fun hn_ => (fb BK949 k_ hn_)), Or.elim hk_ (fun hs_ => hs_.2.2.1) (fun hn_ => (fb BK955 k_ hn_)), Or.elim hk_ (fun hs_ => hs_.2.2.2.1) (fun hn_ => (fb BK966 k_ hn_)), Or.elim hk_ (fun hs_ => hs_.2.2.2.2) (fun hn_ => (fb BK982 k_ hn_))⟩)) (below_size bes)) (bb BK943 hb) (bb BK949 hb) (bb BK955 hb) (bb BK966 hb) (bb BK982 hb) (below_step bes hb) ?_
  clear HO941 HO947 HO953 HO959 HO964 HO970 HO975 HO980 HO987 HO992 HO997 HO1002 HO1008 HO1013 HO1019 HO1029 BK943 BK949 BK955 BK966 BK982 HB
  intro HO941 HO947 HO953 HO959 HO964 HO970 HO975 HO980 HO987 HO992 HO997 HO1002 HO1008 HO1013 HO1019 HO1029 HO1035 BK943 BK949 BK955 BK966 BK982 HB
  (try clear hb)
  (try clear hb2)
  (try clear hk)
  (try clear hi)
  (try clear ho0)
  obtain ⟨Ao119, co119, eo119⟩ := Kd.V_slice HO1035.out
  (first | subst eo119 | (injection eo119 with f1_ f2_ f3_; have f4_ := f1_.symm; have f5_ := f3_.symm; clear f1_ f2_ f3_; subst f4_; subst f5_))
  refine hK.out _ _ ⟨(blk_cell BK966.out 0).trans rfl, (blk_cell BK966.out 1).trans rfl, (blk_cell BK966.out 2).trans rfl, (blk_cell BK982.out 0).trans rfl, (blk_cell BK982.out 1).trans rfl, (blk_cell BK982.out 2).trans rfl, (blk_cell BK943.out 0).trans rfl, (blk_cell BK943.out 1).trans rfl, (blk_cell BK943.out 2).trans rfl, (blk_cell BK949.out 0).trans rfl, (blk_cell BK949.out 1).trans rfl, (blk_cell BK949.out 2).trans rfl, (blk_cell BK955.out 0).trans rfl, (blk_cell BK955.out 1).trans rfl, (blk_cell BK955.out 2).trans rfl⟩ (fun hHeld => ?_)
  clear hK K
  refine norm_ (a' := ?_) ?_ ?_
  rotate_left
  ·
   show Act.put _ (some 92) _ = _
   simp only [Act.put, sa0, sa1, sa2, i64_w, i32_w]
   rfl
  refine one_ (i := 61) (N := some 93) #[true, true, true, true, true, true, true, true, true, true, true, true, true, true, true, true, true, true, true, true, true, true, true, true, true, true, true, true, true, true, true, true, true, true, true, true, true, true, true, true, true, true, true, true, true, true, true, true, true, true, true, true, true, true, true, true, true, true, true, true, true, true, true, false, false, false, false, false, false, false, false, false, false, false, false, false, false, false, false, false, false, false, false, false] rfl rfl (one_of HT_.out (by kernel_rfl)) (by decide) (fun K hK => ?_)
  refine goes_ Tryd.func26 (by kernel_rfl) rfl #[.agg #[.bool t1032, .slice Ao119 t1033.length co119, .int .i64 t1036]] (by rfl) rfl rfl ga ?_
  with_reducible refine (dyad_Num_Neg.calls t1032 (fun k_ => (k_ ≠ gb943 ∧ (k_ ≠ gb949 ∧ (k_ ≠ gb955 ∧ (k_ ≠ gb966 ∧ k_ ≠ gb982))))) _ _ t1033 t1036 t1037 t1038 t1041 _ ?side1 A80.out).mono ?_
  (case side1 => exact HO1035.out)
  rintro e w120 ⟨v1039, rfl, ho0, hb⟩
  refine ⟨_, rfl, ?_⟩
  refine ax24 (Kd.V_below (kv HO941) hb) (Kd.V_below (kv HO947) hb) (Kd.V_below (kv HO953) hb) (Kd.V_below (kv HO959) hb) (Kd.V_below (kv HO964) hb) (Kd.V_below (kv HO970) hb) (Kd.V_below (kv HO975) hb) (Kd.V_below (kv HO980) hb) (Kd.V_below (kv HO987) hb) (Kd.V_below (kv HO992) hb) (Kd.V_below (kv HO997) hb) (Kd.V_below (kv HO1002) hb) (Kd.V_below (kv HO1008) hb) (Kd.V_below (kv HO1013) hb) (Kd.V_below (kv HO1019) hb) (Kd.V_below (kv HO1029) hb) (Kd.V_below (kv HO1035) hb) (Kd.V_lower (Kd.V_mono (ok' := fun k_ => k_ ≠ gb943 ∧ k_ ≠ gb949 ∧ k_ ≠ gb955 ∧ k_ ≠ gb966 ∧ k_ ≠ gb982) ho0 (fun k_ hk_ => ⟨Or.elim hk_ (fun hs_ => hs_.1) (fun hn_ => (fb BK943 k_ hn_)), Or.elim hk_ (fun hs_ => hs_.2.1) (fun hn_ => (fb BK949 k_ hn_)), Or.elim hk_ (fun hs_ => hs_.2.2.1) (fun hn_ => (fb BK955 k_ hn_)), Or.elim hk_ (fun hs_ => hs_.2.2.2.1) (fun hn_ => (fb BK966 k_ hn_)), Or.elim hk_ (fun hs_ => hs_.2.2.2.2) (fun hn_ => (fb BK982 k_ hn_))⟩)) (below_size bes)) (bb BK943 hb) (bb BK949 hb) (bb BK955 hb) (bb BK966 hb) (bb BK982 hb) (below_step bes hb) ?_
  clear HO941 HO947 HO953 HO959 HO964 HO970 HO975 HO980 HO987 HO992 HO997 HO1002 HO1008 HO1013 HO1019 HO1029 HO1035 BK943 BK949 BK955 BK966 BK982 HB
  intro HO941 HO947 HO953 HO959 HO964 HO970 HO975 HO980 HO987 HO992 HO997 HO1002 HO1008 HO1013 HO1019 HO1029 HO1035 HO1040 BK943 BK949 BK955 BK966 BK982 HB
  (try clear hb)
  (try clear hb2)
  (try clear hk)
  (try clear hi)
  (try clear ho0)
  obtain ⟨Ao121, co121, eo121⟩ := Kd.V_slice HO1040.out
  (first | subst eo121 | (injection eo121 with f1_ f2_ f3_; have f4_ := f1_.symm; have f5_ := f3_.symm; clear f1_ f2_ f3_; subst f4_; subst f5_))
  refine hK.out _ _ ⟨(blk_cell BK966.out 0).trans rfl, (blk_cell BK966.out 1).trans rfl, (blk_cell BK966.out 2).trans rfl, (blk_cell BK982.out 0).trans rfl, (blk_cell BK982.out 1).trans rfl, (blk_cell BK982.out 2).trans rfl, (blk_cell BK943.out 0).trans rfl, (blk_cell BK943.out 1).trans rfl, (blk_cell BK943.out 2).trans rfl, (blk_cell BK949.out 0).trans rfl, (blk_cell BK949.out 1).trans rfl, (blk_cell BK949.out 2).trans rfl, (blk_cell BK955.out 0).trans rfl, (blk_cell BK955.out 1).trans rfl, (blk_cell BK955.out 2).trans rfl⟩ (fun hHeld => ?_)
  clear hK K
  refine norm_ (a' := ?_) ?_ ?_
  rotate_left
  ·
   show Act.put _ (some 93) _ = _
   simp only [Act.put, sa0, sa1, sa2, i64_w, i32_w]
   rfl
  refine one_ (i := 63) (N := some 95) #[true, true, true, true, true, true, true, true, true, true, true, true, true, true, true, true, true, true, true, true, true, true, true, true, true, true, true, true, true, true, true, true, true, true, true, true, true, true, true, true, true, true, true, true, true, true, true, true, true, true, true, true, true, true, true, true, true, true, true, true, true, true, true, true, false, false, false, false, false, false, false, false, false, false, false, false, false, false, false, false, false, false, false, false] rfl rfl (one_of HT_.out (by kernel_rfl)) (by decide) (fun K hK => ?_)
  refine goes_ Tryd.func28 (by kernel_rfl) rfl #[.agg #[.bool t1037, .slice Ao121 t1038.length co121, .int .i64 t1041], .agg #[.bool t938, .slice Ao19 t939.length co19, .int .i64 t942]] (by rfl) rfl rfl ga ?_
  with_reducible refine (dyad_Num_Same.calls k t1037 _ _ t1038 t1041 t938 _ _ t939 t942 true _ ?side1 ?side2 ?side3 ?side4 A81.out).mono ?_
  (case side1 => exact kvs HO1040)
  (case side2 => exact (Kd.V_reads' HO1040.out).2.1)
  (case side3 => exact kvs HO941)
  (case side4 => exact (Kd.V_reads' HO941.out).2.1)
  rintro e w122 ⟨rfl, hb⟩
  refine ⟨_, rfl, ?_⟩
  refine ax24 (Kd.V_below (kv HO941) hb) (Kd.V_below (kv HO947) hb) (Kd.V_below (kv HO953) hb) (Kd.V_below (kv HO959) hb) (Kd.V_below (kv HO964) hb) (Kd.V_below (kv HO970) hb) (Kd.V_below (kv HO975) hb) (Kd.V_below (kv HO980) hb) (Kd.V_below (kv HO987) hb) (Kd.V_below (kv HO992) hb) (Kd.V_below (kv HO997) hb) (Kd.V_below (kv HO1002) hb) (Kd.V_below (kv HO1008) hb) (Kd.V_below (kv HO1013) hb) (Kd.V_below (kv HO1019) hb) (Kd.V_below (kv HO1029) hb) (Kd.V_below (kv HO1035) hb) (Kd.V_below (kv HO1040) hb) (bb BK943 hb) (bb BK949 hb) (bb BK955 hb) (bb BK966 hb) (bb BK982 hb) (below_step bes hb) ?_
  clear HO941 HO947 HO953 HO959 HO964 HO970 HO975 HO980 HO987 HO992 HO997 HO1002 HO1008 HO1013 HO1019 HO1029 HO1035 HO1040 BK943 BK949 BK955 BK966 BK982 HB
  intro HO941 HO947 HO953 HO959 HO964 HO970 HO975 HO980 HO987 HO992 HO997 HO1002 HO1008 HO1013 HO1019 HO1029 HO1035 HO1040 BK943 BK949 BK955 BK966 BK982 HB
  (try clear hb)
  (try clear hb2)
  (try clear hk)
  (try clear hi)
  refine hK.out _ _ ⟨(blk_cell BK966.out 0).trans rfl, (blk_cell BK966.out 1).trans rfl, (blk_cell BK966.out 2).trans rfl, (blk_cell BK982.out 0).trans rfl, (blk_cell BK982.out 1).trans rfl, (blk_cell BK982.out 2).trans rfl, (blk_cell BK943.out 0).trans rfl, (blk_cell BK943.out 1).trans rfl, (blk_cell BK943.out 2).trans rfl, (blk_cell BK949.out 0).trans rfl, (blk_cell BK949.out 1).trans rfl, (blk_cell BK949.out 2).trans rfl, (blk_cell BK955.out 0).trans rfl, (blk_cell BK955.out 1).trans rfl, (blk_cell BK955.out 2).trans rfl⟩ (fun hHeld => ?_)
  clear hK K
  refine norm_ (a' := ?_) ?_ ?_
  rotate_left
  ·
   show Act.put _ (some 95) _ = _
   simp only [Act.put, sa0, sa1, sa2, i64_w, i32_w]
   rfl
  refine pure_ (i := 64) (N := some 96) (v := ?_) (a' := ?_) #[true, true, true, true, true, true, true, true, true, true, true, true, true, true, true, true, true, true, true, true, true, true, true, true, true, true, true, true, true, true, true, true, true, true, true, true, true, true, true, true, true, true, true, true, true, true, true, true, true, true, true, true, true, true, true, true, true, true, true, true, true, true, true, true, true, false, false, false, false, false, false, false, false, false, false, false, false, false, false, false, false, false, false, false] rfl rfl (any_of HT_.out (by kernel_rfl)) (fun _ _ _ h => h) (Or.inl ⟨by rfl, ?_⟩) ?_ ?_
  rotate_left
  ·
   intro w'
   go_simp
   with_reducible rfl
  rotate_left
  ·
   simp only [Act.put, sa0, sa1, sa2, i64_w, i32_w]
   rfl
  refine pure_ (i := 65) (N := some 97) (v := ?_) (a' := ?_) #[true, true, true, true, true, true, true, true, true, true, true, true, true, true, true, true, true, true, true, true, true, true, true, true, true, true, true, true, true, true, true, true, true, true, true, true, true, true, true, true, true, true, true, true, true, true, true, true, true, true, true, true, true, true, true, true, true, true, true, true, true, true, true, true, true, true, false, false, false, false, false, false, false, false, false, false, false, false, false, false, false, false, false, false] rfl rfl (any_of HT_.out (by kernel_rfl)) (fun _ _ _ h => h) (Or.inl ⟨by rfl, ?_⟩) ?_ ?_
  rotate_left
  ·
   intro w'
   go_simp
   with_reducible rfl
  rotate_left
  ·
   simp only [Act.put, sa0, sa1, sa2, i64_w, i32_w]
   rfl
  refine take_ (i := 66) (N := some 98) (v := ?_) (a' := ?_) #[true, true, true, true, true, true, true, true, true, true, true, true, true, true, true, true, true, true, true, true, true, true, true, true, true, true, true, true, true, true, true, true, true, true, true, true, true, true, true, true, true, true, true, true, true, true, true, true, true, true, true, true, true, true, true, true, true, true, true, true, true, true, true, true, true, true, true, false, false, false, false, false, false, false, false, false, false, false, false, false, false, false, false, false] rfl rfl (take_ofW HT_.out HW_.out (by kernel_rfl)) (fun _ _ _ h => h) (Or.inl ⟨by rfl, ?_⟩) hHeld ?_ ?_
  rotate_left
  ·
   rintro w' ⟨s0, s1, s2, s3, s4, s5, s6, s7, s8, s9, s10, s11, s12, s13, s14⟩
   go_simp
   with_reducible rfl
  rotate_left
  ·
   simp only [Act.put, sa0, sa1, sa2, i64_w, i32_w]
   rfl
  refine take_ (i := 69) (N := some 101) (v := ?_) (a' := ?_) #[true, true, true, true, true, true, true, true, true, true, true, true, true, true, true, true, true, true, true, true, true, true, true, true, true, true, true, true, true, true, true, true, true, true, true, true, true, true, true, true, true, true, true, true, true, true, true, true, true, true, true, true, true, true, true, true, true, true, true, true, true, true, true, true, true, true, true, false, false, true, false, false, false, false, false, false, false, false, false, false, false, false, false, false] rfl rfl (take_ofW HT_.out HW_.out (by kernel_rfl)) (fun _ _ _ h => h) (Or.inl ⟨by rfl, ?_⟩) hHeld ?_ ?_
  rotate_left
  ·
   rintro w' ⟨s0, s1, s2, s3, s4, s5, s6, s7, s8, s9, s10, s11, s12, s13, s14⟩
   go_simp
   with_reducible rfl
  rotate_left
  ·
   simp only [Act.put, sa0, sa1, sa2, i64_w, i32_w]
   rfl
  refine one_ (i := 67) (N := some 99) #[true, true, true, true, true, true, true, true, true, true, true, true, true, true, true, true, true, true, true, true, true, true, true, true, true, true, true, true, true, true, true, true, true, true, true, true, true, true, true, true, true, true, true, true, true, true, true, true, true, true, true, true, true, true, true, true, true, true, true, true, true, true, true, true, true, true, true, true, false, true, false, false, false, false, false, false, false, false, false, false, false, false, false, false] rfl rfl (one_of HT_.out (by kernel_rfl)) (by decide) (fun K hK => ?_)
  refine goes_ Tryd.func26 (by kernel_rfl) rfl #[.agg #[.bool t938, .slice Ao19 t939.length co19, .int .i64 t942]] (by rfl) rfl rfl ga ?_
  with_reducible refine (dyad_Num_Neg.calls t938 (fun k_ => (k_ ≠ gb943 ∧ (k_ ≠ gb949 ∧ (k_ ≠ gb955 ∧ (k_ ≠ gb966 ∧ k_ ≠ gb982))))) _ _ t939 t942 t1043 t1044 t1047 _ ?side1 A83.out).mono ?_
  (case side1 => exact HO941.out)
  rintro e w123 ⟨v1045, rfl, ho0, hb⟩
  refine ⟨_, rfl, ?_⟩
  refine ax25 (Kd.V_below (kv HO941) hb) (Kd.V_below (kv HO947) hb) (Kd.V_below (kv HO953) hb) (Kd.V_below (kv HO959) hb) (Kd.V_below (kv HO964) hb) (Kd.V_below (kv HO970) hb) (Kd.V_below (kv HO975) hb) (Kd.V_below (kv HO980) hb) (Kd.V_below (kv HO987) hb) (Kd.V_below (kv HO992) hb) (Kd.V_below (kv HO997) hb) (Kd.V_below (kv HO1002) hb) (Kd.V_below (kv HO1008) hb) (Kd.V_below (kv HO1013) hb) (Kd.V_below (kv HO1019) hb) (Kd.V_below (kv HO1029) hb) (Kd.V_below (kv HO1035) hb) (Kd.V_below (kv HO1040) hb) (Kd.V_lower (Kd.V_mono (ok' := fun k_ => k_ ≠ gb943 ∧ k_ ≠ gb949 ∧ k_ ≠ gb955 ∧ k_ ≠ gb966 ∧ k_ ≠ gb982) ho0 (fun k_ hk_ => ⟨Or.elim hk_ (fun hs_ => hs_.1) (fun hn_ => (fb BK943 k_ hn_)), Or.elim hk_ (fun hs_ => hs_.2.1) (fun hn_ => (fb BK949 k_ hn_)), Or.elim hk_ (fun hs_ => hs_.2.2.1) (fun hn_ => (fb BK955 k_ hn_)), Or.elim hk_ (fun hs_ => hs_.2.2.2.1) (fun hn_ => (fb BK966 k_ hn_)), Or.elim hk_ (fun hs_ => hs_.2.2.2.2) (fun hn_ => (fb BK982 k_ hn_))⟩)) (below_size bes)) (bb BK943 hb) (bb BK949 hb) (bb BK955 hb) (bb BK966 hb) (bb BK982 hb) (below_step bes hb) ?_
  clear HO941 HO947 HO953 HO959 HO964 HO970 HO975 HO980 HO987 HO992 HO997 HO1002 HO1008 HO1013 HO1019 HO1029 HO1035 HO1040 BK943 BK949 BK955 BK966 BK982 HB
  intro HO941 HO947 HO953 HO959 HO964 HO970 HO975 HO980 HO987 HO992 HO997 HO1002 HO1008 HO1013 HO1019 HO1029 HO1035 HO1040 HO1046 BK943 BK949 BK955 BK966 BK982 HB
  (try clear hb)
  (try clear hb2)
  (try clear hk)
  (try clear hi)
  (try clear ho0)
  obtain ⟨Ao124, co124, eo124⟩ := Kd.V_slice HO1046.out
  (first | subst eo124 | (injection eo124 with f1_ f2_ f3_; have f4_ := f1_.symm; have f5_ := f3_.symm; clear f1_ f2_ f3_; subst f4_; subst f5_))
  refine hK.out _ _ ⟨(blk_cell BK966.out 0).trans rfl, (blk_cell BK966.out 1).trans rfl, (blk_cell BK966.out 2).trans rfl, (blk_cell BK982.out 0).trans rfl, (blk_cell BK982.out 1).trans rfl, (blk_cell BK982.out 2).trans rfl, (blk_cell BK943.out 0).trans rfl, (blk_cell BK943.out 1).trans rfl, (blk_cell BK943.out 2).trans rfl, (blk_cell BK949.out 0).trans rfl, (blk_cell BK949.out 1).trans rfl, (blk_cell BK949.out 2).trans rfl, (blk_cell BK955.out 0).trans rfl, (blk_cell BK955.out 1).trans rfl, (blk_cell BK955.out 2).trans rfl⟩ (fun hHeld => ?_)
  clear hK K
  refine norm_ (a' := ?_) ?_ ?_
  rotate_left
  ·
   show Act.put _ (some 99) _ = _
   simp only [Act.put, sa0, sa1, sa2, i64_w, i32_w]
   rfl
  refine one_ (i := 68) (N := some 100) #[true, true, true, true, true, true, true, true, true, true, true, true, true, true, true, true, true, true, true, true, true, true, true, true, true, true, true, true, true, true, true, true, true, true, true, true, true, true, true, true, true, true, true, true, true, true, true, true, true, true, true, true, true, true, true, true, true, true, true, true, true, true, true, true, true, true, true, true, true, true, false, false, false, false, false, false, false, false, false, false, false, false, false, false] rfl rfl (one_of HT_.out (by kernel_rfl)) (by decide) (fun K hK => ?_)
  refine goes_ Tryd.func10 (by kernel_rfl) rfl #[.agg #[.bool t1043, .slice Ao124 t1044.length co124, .int .i64 t1047]] (by rfl) rfl rfl ga ?_
  with_reducible refine (dyad_Num_Sign.calls t1043 _ _ t1044 t1047 t1048 _ ?side1 ?side2 A84.out).mono ?_
  (case side1 => exact kvs HO1046)
  (case side2 => exact (Kd.V_reads' HO1046.out).2.1)
  rintro e w125 ⟨rfl, hb⟩
  refine ⟨_, rfl, ?_⟩
  refine ax25 (Kd.V_below (kv HO941) hb) (Kd.V_below (kv HO947) hb) (Kd.V_below (kv HO953) hb) (Kd.V_below (kv HO959) hb) (Kd.V_below (kv HO964) hb) (Kd.V_below (kv HO970) hb) (Kd.V_below (kv HO975) hb) (Kd.V_below (kv HO980) hb) (Kd.V_below (kv HO987) hb) (Kd.V_below (kv HO992) hb) (Kd.V_below (kv HO997) hb) (Kd.V_below (kv HO1002) hb) (Kd.V_below (kv HO1008) hb) (Kd.V_below (kv HO1013) hb) (Kd.V_below (kv HO1019) hb) (Kd.V_below (kv HO1029) hb) (Kd.V_below (kv HO1035) hb) (Kd.V_below (kv HO1040) hb) (Kd.V_below (kv HO1046) hb) (bb BK943 hb) (bb BK949 hb) (bb BK955 hb) (bb BK966 hb) (bb BK982 hb) (below_step bes hb) ?_
  clear HO941 HO947 HO953 HO959 HO964 HO970 HO975 HO980 HO987 HO992 HO997 HO1002 HO1008 HO1013 HO1019 HO1029 HO1035 HO1040 HO1046 BK943 BK949 BK955 BK966 BK982 HB
  intro HO941 HO947 HO953 HO959 HO964 HO970 HO975 HO980 HO987 HO992 HO997 HO1002 HO1008 HO1013 HO1019 HO1029 HO1035 HO1040 HO1046 BK943 BK949 BK955 BK966 BK982 HB
  (try clear hb)
  (try clear hb2)
  (try clear hk)
  (try clear hi)
  refine hK.out _ _ ⟨(blk_cell BK966.out 0).trans rfl, (blk_cell BK966.out 1).trans rfl, (blk_cell BK966.out 2).trans rfl, (blk_cell BK982.out 0).trans rfl, (blk_cell BK982.out 1).trans rfl, (blk_cell BK982.out 2).trans rfl, (blk_cell BK943.out 0).trans rfl, (blk_cell BK943.out 1).trans rfl, (blk_cell BK943.out 2).trans rfl, (blk_cell BK949.out 0).trans rfl, (blk_cell BK949.out 1).trans rfl, (blk_cell BK949.out 2).trans rfl, (blk_cell BK955.out 0).trans rfl, (blk_cell BK955.out 1).trans rfl, (blk_cell BK955.out 2).trans rfl⟩ (fun hHeld => ?_)
  clear hK K
  refine norm_ (a' := ?_) ?_ ?_
  rotate_left
  ·
   show Act.put _ (some 100) _ = _
   simp only [Act.put, sa0, sa1, sa2, i64_w, i32_w]
   rfl
  refine one_ (i := 70) (N := some 102) #[true, true, true, true, true, true, true, true, true, true, true, true, true, true, true, true, true, true, true, true, true, true, true, true, true, true, true, true, true, true, true, true, true, true, true, true, true, true, true, true, true, true, true, true, true, true, true, true, true, true, true, true, true, true, true, true, true, true, true, true, true, true, true, true, true, true, true, true, true, true, true, false, false, false, false, false, false, false, false, false, false, false, false, false] rfl rfl (one_of HT_.out (by kernel_rfl)) (by decide) (fun K hK => ?_)
  refine goes_ Tryd.func10 (by kernel_rfl) rfl #[.agg #[.bool t938, .slice Ao19 t939.length co19, .int .i64 t942]] (by rfl) rfl rfl ga ?_
  with_reducible refine (dyad_Num_Sign.calls t938 _ _ t939 t942 t1049 _ ?side1 ?side2 A85.out).mono ?_
  (case side1 => exact kvs HO941)
  (case side2 => exact (Kd.V_reads' HO941.out).2.1)
  rintro e w126 ⟨rfl, hb⟩
  refine ⟨_, rfl, ?_⟩
  refine ax25 (Kd.V_below (kv HO941) hb) (Kd.V_below (kv HO947) hb) (Kd.V_below (kv HO953) hb) (Kd.V_below (kv HO959) hb) (Kd.V_below (kv HO964) hb) (Kd.V_below (kv HO970) hb) (Kd.V_below (kv HO975) hb) (Kd.V_below (kv HO980) hb) (Kd.V_below (kv HO987) hb) (Kd.V_below (kv HO992) hb) (Kd.V_below (kv HO997) hb) (Kd.V_below (kv HO1002) hb) (Kd.V_below (kv HO1008) hb) (Kd.V_below (kv HO1013) hb) (Kd.V_below (kv HO1019) hb) (Kd.V_below (kv HO1029) hb) (Kd.V_below (kv HO1035) hb) (Kd.V_below (kv HO1040) hb) (Kd.V_below (kv HO1046) hb) (bb BK943 hb) (bb BK949 hb) (bb BK955 hb) (bb BK966 hb) (bb BK982 hb) (below_step bes hb) ?_
  clear HO941 HO947 HO953 HO959 HO964 HO970 HO975 HO980 HO987 HO992 HO997 HO1002 HO1008 HO1013 HO1019 HO1029 HO1035 HO1040 HO1046 BK943 BK949 BK955 BK966 BK982 HB
  intro HO941 HO947 HO953 HO959 HO964 HO970 HO975 HO980 HO987 HO992 HO997 HO1002 HO1008 HO1013 HO1019 HO1029 HO1035 HO1040 HO1046 BK943 BK949 BK955 BK966 BK982 HB
  (try clear hb)
  (try clear hb2)
  (try clear hk)
  (try clear hi)
  refine hK.out _ _ ⟨(blk_cell BK966.out 0).trans rfl, (blk_cell BK966.out 1).trans rfl, (blk_cell BK966.out 2).trans rfl, (blk_cell BK982.out 0).trans rfl, (blk_cell BK982.out 1).trans rfl, (blk_cell BK982.out 2).trans rfl, (blk_cell BK943.out 0).trans rfl, (blk_cell BK943.out 1).trans rfl, (blk_cell BK943.out 2).trans rfl, (blk_cell BK949.out 0).trans rfl, (blk_cell BK949.out 1).trans rfl, (blk_cell BK949.out 2).trans rfl, (blk_cell BK955.out 0).trans rfl, (blk_cell BK955.out 1).trans rfl, (blk_cell BK955.out 2).trans rfl⟩ (fun hHeld => ?_)
  clear hK K
  refine norm_ (a' := ?_) ?_ ?_
  rotate_left
  ·
   show Act.put _ (some 102) _ = _
   simp only [Act.put, sa0, sa1, sa2, i64_w, i32_w]
   rfl
  refine pure_ (i := 71) (N := some 103) (v := ?_) (a' := ?_) #[true, true, true, true, true, true, true, true, true, true, true, true, true, true, true, true, true, true, true, true, true, true, true, true, true, true, true, true, true, true, true, true, true, true, true, true, true, true, true, true, true, true, true, true, true, true, true, true, true, true, true, true, true, true, true, true, true, true, true, true, true, true, true, true, true, true, true, true, true, true, true, true, false, false, false, false, false, false, false, false, false, false, false, false] rfl rfl (any_of HT_.out (by kernel_rfl)) (fun _ _ _ h => h) (Or.inl ⟨by rfl, ?_⟩) ?_ ?_
  rotate_left
  ·
   intro w'
   go_simp
   with_reducible rfl
  rotate_left
  ·
   simp only [Act.put, sa0, sa1, sa2, i64_w, i32_w]
   rfl
  refine pure_ (i := 72) (N := some 104) (v := ?_) (a' := ?_) #[true, true, true, true, true, true, true, true, true, true, true, true, true, true, true, true, true, true, true, true, true, true, true, true, true, true, true, true, true, true, true, true, true, true, true, true, true, true, true, true, true, true, true, true, true, true, true, true, true, true, true, true, true, true, true, true, true, true, true, true, true, true, true, true, true, true, true, true, true, true, true, true, true, false, false, false, false, false, false, false, false, false, false, false] rfl rfl (any_of HT_.out (by kernel_rfl)) (fun _ _ _ h => h) (Or.inl ⟨by rfl, ?_⟩) ?_ ?_
  rotate_left
  ·
   intro w'
   go_simp
   with_reducible rfl
  rotate_left
  ·
   simp only [Act.put, sa0, sa1, sa2, i64_w, i32_w]
   rfl
  refine pure_ (i := 73) (N := some 105) (v := ?_) (a' := ?_) #[true, true, true, true, true, true, true, true, true, true, true, true, true, true, true, true, true, true, true, true, true, true, true, true, true, true, true, true, true, true, true, true, true, true, true, true, true, true, true, true, true, true, true, true, true, true, true, true, true, true, true, true, true, true, true, true, true, true, true, true, true, true, true, true, true, true, true, true, true, true, true, true, true, true, false, false, false, false, false, false, false, false, false, false] rfl rfl (any_of HT_.out (by kernel_rfl)) (fun _ _ _ h => h) (Or.inl ⟨by rfl, ?_⟩) ?_ ?_
  rotate_left
  ·
   intro w'
   go_simp
   with_reducible rfl
  rotate_left
  ·
   simp only [Act.put, sa0, sa1, sa2, i64_w, i32_w]
   rfl
  refine pure_ (i := 74) (N := some 106) (v := ?_) (a' := ?_) #[true, true, true, true, true, true, true, true, true, true, true, true, true, true, true, true, true, true, true, true, true, true, true, true, true, true, true, true, true, true, true, true, true, true, true, true, true, true, true, true, true, true, true, true, true, true, true, true, true, true, true, true, true, true, true, true, true, true, true, true, true, true, true, true, true, true, true, true, true, true, true, true, true, true, true, false, false, false, false, false, false, false, false, false] rfl rfl (any_of HT_.out (by kernel_rfl)) (fun _ _ _ h => h) (Or.inl ⟨by rfl, ?_⟩) ?_ ?_
  rotate_left
  ·
   intro w'
   go_simp
   with_reducible rfl
  rotate_left
  ·
   simp only [Act.put, sa0, sa1, sa2, i64_w, i32_w]
   rfl
  refine take_ (i := 75) (N := some 107) (v := ?_) (a' := ?_) #[true, true, true, true, true, true, true, true, true, true, true, true, true, true, true, true, true, true, true, true, true, true, true, true, true, true, true, true, true, true, true, true, true, true, true, true, true, true, true, true, true, true, true, true, true, true, true, true, true, true, true, true, true, true, true, true, true, true, true, true, true, true, true, true, true, true, true, true, true, true, true, true, true, true, true, true, false, false, false, false, false, false, false, false] rfl rfl (take_ofW HT_.out HW_.out (by kernel_rfl)) (fun _ _ _ h => h) (Or.inl ⟨by rfl, ?_⟩) hHeld ?_ ?_
  rotate_left
  ·
   rintro w' ⟨s0, s1, s2, s3, s4, s5, s6, s7, s8, s9, s10, s11, s12, s13, s14⟩
   go_simp
   with_reducible rfl
  rotate_left
  ·
   simp only [Act.put, sa0, sa1, sa2, i64_w, i32_w]
   rfl
  refine take_ (i := 76) (N := some 108) (v := ?_) (a' := ?_) #[true, true, true, true, true, true, true, true, true, true, true, true, true, true, true, true, true, true, true, true, true, true, true, true, true, true, true, true, true, true, true, true, true, true, true, true, true, true, true, true, true, true, true, true, true, true, true, true, true, true, true, true, true, true, true, true, true, true, true, true, true, true, true, true, true, true, true, true, true, true, true, true, true, true, true, true, true, false, false, false, false, false, false, false] rfl rfl (take_ofW HT_.out HW_.out (by kernel_rfl)) (fun _ _ _ h => h) (Or.inl ⟨by rfl, ?_⟩) hHeld ?_ ?_
  rotate_left
  ·
   rintro w' ⟨s0, s1, s2, s3, s4, s5, s6, s7, s8, s9, s10, s11, s12, s13, s14⟩
   go_simp
   with_reducible rfl
  rotate_left
  ·
   simp only [Act.put, sa0, sa1, sa2, i64_w, i32_w]
   rfl
  refine take_ (i := 78) (N := some 110) (v := ?_) (a' := ?_) #[true, true, true, true, true, true, true, true, true, true, true, true, true, true, true, true, true, true, true, true, true, true, true, true, true, true, true, true, true, true, true, true, true, true, true, true, true, true, true, true, true, true, true, true, true, true, true, true, true, true, true, true, true, true, true, true, true, true, true, true, true, true, true, true, true, true, true, true, true, true, true, true, true, true, true, true, true, false, true, false, false, false, false, false] rfl rfl (take_ofW HT_.out HW_.out (by kernel_rfl)) (fun _ _ _ h => h) (Or.inl ⟨by rfl, ?_⟩) hHeld ?_ ?_
  rotate_left
  ·
   rintro w' ⟨s0, s1, s2, s3, s4, s5, s6, s7, s8, s9, s10, s11, s12, s13, s14⟩
   go_simp
   with_reducible rfl
  rotate_left
  ·
   simp only [Act.put, sa0, sa1, sa2, i64_w, i32_w]
   rfl
  refine one_ (i := 77) (N := some 109) #[true, true, true, true, true, true, true, true, true, true, true, true, true, true, true, true, true, true, true, true, true, true, true, true, true, true, true, true, true, true, true, true, true, true, true, true, true, true, true, true, true, true, true, true, true, true, true, true, true, true, true, true, true, true, true, true, true, true, true, true, true, true, true, true, true, true, true, true, true, true, true, true, true, true, true, true, true, true, true, false, false, false, false, false] rfl rfl (one_of HT_.out (by kernel_rfl)) (by decide) (fun K hK => ?_)
  refine goes_ Tryd.func11 (by kernel_rfl) rfl #[.agg #[.bool t938, .slice Ao19 t939.length co19, .int .i64 t942], .agg #[.bool t938, .slice Ao19 t939.length co19, .int .i64 t942]] (by rfl) rfl rfl ga ?_
  with_reducible refine (dyad_Num_Add.calls k t938 (fun k_ => (k_ ≠ gb943 ∧ (k_ ≠ gb949 ∧ (k_ ≠ gb955 ∧ (k_ ≠ gb966 ∧ k_ ≠ gb982))))) _ _ t939 t942 t938 (fun k_ => (k_ ≠ gb943 ∧ (k_ ≠ gb949 ∧ (k_ ≠ gb955 ∧ (k_ ≠ gb966 ∧ k_ ≠ gb982))))) _ _ t939 t942 t1050 t1051 t1054 _ ?side1 ?side2 ?side3 A87.out).mono ?_
  (case side1 => exact HO941.out)
  (case side2 => exact HO941.out)
  (case side3 => first | exact hT | exact TabW.drewN hT _ | exact TabW.drew hT | exact TabW.below hT bes)
  rintro e w127 ⟨v1052, rfl, ho0, hb⟩
  refine ⟨_, rfl, ?_⟩
  refine ax26 (Kd.V_below (kv HO941) hb) (Kd.V_below (kv HO947) hb) (Kd.V_below (kv HO953) hb) (Kd.V_below (kv HO959) hb) (Kd.V_below (kv HO964) hb) (Kd.V_below (kv HO970) hb) (Kd.V_below (kv HO975) hb) (Kd.V_below (kv HO980) hb) (Kd.V_below (kv HO987) hb) (Kd.V_below (kv HO992) hb) (Kd.V_below (kv HO997) hb) (Kd.V_below (kv HO1002) hb) (Kd.V_below (kv HO1008) hb) (Kd.V_below (kv HO1013) hb) (Kd.V_below (kv HO1019) hb) (Kd.V_below (kv HO1029) hb) (Kd.V_below (kv HO1035) hb) (Kd.V_below (kv HO1040) hb) (Kd.V_below (kv HO1046) hb) (Kd.V_lower (Kd.V_mono (ok' := fun k_ => k_ ≠ gb943 ∧ k_ ≠ gb949 ∧ k_ ≠ gb955 ∧ k_ ≠ gb966 ∧ k_ ≠ gb982) ho0 (fun k_ hk_ => ⟨Or.elim hk_ (fun hs_ => Or.elim hs_ (fun hs_ => hs_.1) (fun hs_ => hs_.1)) (fun hn_ => (fb BK943 k_ hn_)), Or.elim hk_ (fun hs_ => Or.elim hs_ (fun hs_ => hs_.2.1) (fun hs_ => hs_.2.1)) (fun hn_ => (fb BK949 k_ hn_)), Or.elim hk_ (fun hs_ => Or.elim hs_ (fun hs_ => hs_.2.2.1) (fun hs_ => hs_.2.2.1)) (fun hn_ => (fb BK955 k_ hn_)), Or.elim hk_ (fun hs_ => Or.elim hs_ (fun hs_ => hs_.2.2.2.1) (fun hs_ => hs_.2.2.2.1)) (fun hn_ => (fb BK966 k_ hn_)), Or.elim hk_ (fun hs_ => Or.elim hs_ (fun hs_ => hs_.2.2.2.2) (fun hs_ => hs_.2.2.2.2)) (fun hn_ => (fb BK982 k_ hn_))⟩)) (below_size bes)) (bb BK943 hb) (bb BK949 hb) (bb BK955 hb) (bb BK966 hb) (bb BK982 hb) (below_step bes hb) ?_
  clear HO941 HO947 HO953 HO959 HO964 HO970 HO975 HO980 HO987 HO992 HO997 HO1002 HO1008 HO1013 HO1019 HO1029 HO1035 HO1040 HO1046 BK943 BK949 BK955 BK966 BK982 HB
  intro HO941 HO947 HO953 HO959 HO964 HO970 HO975 HO980 HO987 HO992 HO997 HO1002 HO1008 HO1013 HO1019 HO1029 HO1035 HO1040 HO1046 HO1053 BK943 BK949 BK955 BK966 BK982 HB
  (try clear hb)
  (try clear hb2)
  (try clear hk)
  (try clear hi)
  (try clear ho0)
  refine hK.out _ _ ⟨(blk_cell BK966.out 0).trans rfl, (blk_cell BK966.out 1).trans rfl, (blk_cell BK966.out 2).trans rfl, (blk_cell BK982.out 0).trans rfl, (blk_cell BK982.out 1).trans rfl, (blk_cell BK982.out 2).trans rfl, (blk_cell BK943.out 0).trans rfl, (blk_cell BK943.out 1).trans rfl, (blk_cell BK943.out 2).trans rfl, (blk_cell BK949.out 0).trans rfl, (blk_cell BK949.out 1).trans rfl, (blk_cell BK949.out 2).trans rfl, (blk_cell BK955.out 0).trans rfl, (blk_cell BK955.out 1).trans rfl, (blk_cell BK955.out 2).trans rfl⟩ (fun hHeld => ?_)
  clear hK K
  refine norm_ (a' := ?_) ?_ ?_
  rotate_left
  ·
   show Act.put _ (some 109) _ = _
   simp only [Act.put, sa0, sa1, sa2, i64_w, i32_w]
   rfl
  refine one_ (i := 79) (N := some 111) #[true, true, true, true, true, true, true, true, true, true, true, true, true, true, true, true, true, true, true, true, true, true, true, true, true, true, true, true, true, true, true, true, true, true, true, true, true, true, true, true, true, true, true, true, true, true, true, true, true, true, true, true, true, true, true, true, true, true, true, true, true, true, true, true, true, true, true, true, true, true, true, true, true, true, true, true, true, true, true, true, false, false, false, false] rfl rfl (one_of HT_.out (by kernel_rfl)) (by decide) (fun K hK => ?_)
  refine goes_ Tryd.func25 (by kernel_rfl) rfl #[.int .i64 2] (by rfl) rfl rfl ga ?_
  with_reducible refine (dyad_Int.calls k 2 t1055 t1056 t1059 _ ?side1 A88.out).mono ?_
  (case side1 => first | exact hT | exact TabW.drewN hT _ | exact TabW.drew hT | exact TabW.below hT bes)
  rintro e w128 ⟨v1057, rfl, ho0, hb⟩
  refine ⟨_, rfl, ?_⟩
  refine ax27 (Kd.V_below (kv HO941) hb) (Kd.V_below (kv HO947) hb) (Kd.V_below (kv HO953) hb) (Kd.V_below (kv HO959) hb) (Kd.V_below (kv HO964) hb) (Kd.V_below (kv HO970) hb) (Kd.V_below (kv HO975) hb) (Kd.V_below (kv HO980) hb) (Kd.V_below (kv HO987) hb) (Kd.V_below (kv HO992) hb) (Kd.V_below (kv HO997) hb) (Kd.V_below (kv HO1002) hb) (Kd.V_below (kv HO1008) hb) (Kd.V_below (kv HO1013) hb) (Kd.V_below (kv HO1019) hb) (Kd.V_below (kv HO1029) hb) (Kd.V_below (kv HO1035) hb) (Kd.V_below (kv HO1040) hb) (Kd.V_below (kv HO1046) hb) (Kd.V_below (kv HO1053) hb) (Kd.V_lower (Kd.V_mono (ok' := fun k_ => k_ ≠ gb943 ∧ k_ ≠ gb949 ∧ k_ ≠ gb955 ∧ k_ ≠ gb966 ∧ k_ ≠ gb982) ho0 (fun k_ hk_ => ⟨(fb BK943 k_ hk_), (fb BK949 k_ hk_), (fb BK955 k_ hk_), (fb BK966 k_ hk_), (fb BK982 k_ hk_)⟩)) (below_size bes)) (bb BK943 hb) (bb BK949 hb) (bb BK955 hb) (bb BK966 hb) (bb BK982 hb) (below_step bes hb) ?_
  clear HO941 HO947 HO953 HO959 HO964 HO970 HO975 HO980 HO987 HO992 HO997 HO1002 HO1008 HO1013 HO1019 HO1029 HO1035 HO1040 HO1046 HO1053 BK943 BK949 BK955 BK966 BK982 HB
  intro HO941 HO947 HO953 HO959 HO964 HO970 HO975 HO980 HO987 HO992 HO997 HO1002 HO1008 HO1013 HO1019 HO1029 HO1035 HO1040 HO1046 HO1053 HO1058 BK943 BK949 BK955 BK966 BK982 HB
  (try clear hb)
  (try clear hb2)
  (try clear hk)
  (try clear hi)
  (try clear ho0)
  obtain ⟨Ao129, co129, eo129⟩ := Kd.V_slice HO1058.out
  (first | subst eo129 | (injection eo129 with f1_ f2_ f3_; have f4_ := f1_.symm; have f5_ := f3_.symm; clear f1_ f2_ f3_; subst f4_; subst f5_))
  refine hK.out _ _ ⟨(blk_cell BK966.out 0).trans rfl, (blk_cell BK966.out 1).trans rfl, (blk_cell BK966.out 2).trans rfl, (blk_cell BK982.out 0).trans rfl, (blk_cell BK982.out 1).trans rfl, (blk_cell BK982.out 2).trans rfl, (blk_cell BK943.out 0).trans rfl, (blk_cell BK943.out 1).trans rfl, (blk_cell BK943.out 2).trans rfl, (blk_cell BK949.out 0).trans rfl, (blk_cell BK949.out 1).trans rfl, (blk_cell BK949.out 2).trans rfl, (blk_cell BK955.out 0).trans rfl, (blk_cell BK955.out 1).trans rfl, (blk_cell BK955.out 2).trans rfl⟩ (fun hHeld => ?_)
  clear hK K
  refine norm_ (a' := ?_) ?_ ?_
  rotate_left
  ·
   show Act.put _ (some 111) _ = _
   simp only [Act.put, sa0, sa1, sa2, i64_w, i32_w]
   rfl
  refine one_ (i := 80) (N := some 112) #[true, true, true, true, true, true, true, true, true, true, true, true, true, true, true, true, true, true, true, true, true, true, true, true, true, true, true, true, true, true, true, true, true, true, true, true, true, true, true, true, true, true, true, true, true, true, true, true, true, true, true, true, true, true, true, true, true, true, true, true, true, true, true, true, true, true, true, true, true, true, true, true, true, true, true, true, true, true, true, true, true, false, false, false] rfl rfl (one_of HT_.out (by kernel_rfl)) (by decide) (fun K hK => ?_)
  refine goes_ Tryd.func13 (by kernel_rfl) rfl #[.agg #[.bool t938, .slice Ao19 t939.length co19, .int .i64 t942], .agg #[.bool t1055, .slice Ao129 t1056.length co129, .int .i64 t1059]] (by rfl) rfl rfl ga ?_
  with_reducible refine (dyad_Num_Mul.calls k t938 _ _ t939 t942 t1055 _ _ t1056 t1059 t1060 t1061 t1064 _ ?side1 ?side2 ?side3 ?side4 ?side5 A89.out).mono ?_
  (case side1 => exact kvs HO941)
  (case side2 => exact (Kd.V_reads' HO941.out).2.1)
  (case side3 => exact kvs HO1058)
  (case side4 => exact (Kd.V_reads' HO1058.out).2.1)
  (case side5 => first | exact hT | exact TabW.drewN hT _ | exact TabW.drew hT | exact TabW.below hT bes)
  rintro e w130 ⟨v1062, rfl, ho0, hb⟩
  refine ⟨_, rfl, ?_⟩
  refine ax28 (Kd.V_below (kv HO941) hb) (Kd.V_below (kv HO947) hb) (Kd.V_below (kv HO953) hb) (Kd.V_below (kv HO959) hb) (Kd.V_below (kv HO964) hb) (Kd.V_below (kv HO970) hb) (Kd.V_below (kv HO975) hb) (Kd.V_below (kv HO980) hb) (Kd.V_below (kv HO987) hb) (Kd.V_below (kv HO992) hb) (Kd.V_below (kv HO997) hb) (Kd.V_below (kv HO1002) hb) (Kd.V_below (kv HO1008) hb) (Kd.V_below (kv HO1013) hb) (Kd.V_below (kv HO1019) hb) (Kd.V_below (kv HO1029) hb) (Kd.V_below (kv HO1035) hb) (Kd.V_below (kv HO1040) hb) (Kd.V_below (kv HO1046) hb) (Kd.V_below (kv HO1053) hb) (Kd.V_below (kv HO1058) hb) (Kd.V_lower (Kd.V_mono (ok' := fun k_ => k_ ≠ gb943 ∧ k_ ≠ gb949 ∧ k_ ≠ gb955 ∧ k_ ≠ gb966 ∧ k_ ≠ gb982) ho0 (fun k_ hk_ => ⟨(fb BK943 k_ hk_), (fb BK949 k_ hk_), (fb BK955 k_ hk_), (fb BK966 k_ hk_), (fb BK982 k_ hk_)⟩)) (below_size bes)) (bb BK943 hb) (bb BK949 hb) (bb BK955 hb) (bb BK966 hb) (bb BK982 hb) (below_step bes hb) ?_
  clear HO941 HO947 HO953 HO959 HO964 HO970 HO975 HO980 HO987 HO992 HO997 HO1002 HO1008 HO1013 HO1019 HO1029 HO1035 HO1040 HO1046 HO1053 HO1058 BK943 BK949 BK955 BK966 BK982 HB
  intro HO941 HO947 HO953 HO959 HO964 HO970 HO975 HO980 HO987 HO992 HO997 HO1002 HO1008 HO1013 HO1019 HO1029 HO1035 HO1040 HO1046 HO1053 HO1058 HO1063 BK943 BK949 BK955 BK966 BK982 HB
  (try clear hb)
  (try clear hb2)
  (try clear hk)
  (try clear hi)
  (try clear ho0)
  obtain ⟨Ao131, co131, eo131⟩ := Kd.V_slice HO1053.out
  (first | subst eo131 | (injection eo131 with f1_ f2_ f3_; have f4_ := f1_.symm; have f5_ := f3_.symm; clear f1_ f2_ f3_; subst f4_; subst f5_))
  obtain ⟨Ao132, co132, eo132⟩ := Kd.V_slice HO1063.out
  (first | subst eo132 | (injection eo132 with f1_ f2_ f3_; have f4_ := f1_.symm; have f5_ := f3_.symm; clear f1_ f2_ f3_; subst f4_; subst f5_))
  refine hK.out _ _ ⟨(blk_cell BK966.out 0).trans rfl, (blk_cell BK966.out 1).trans rfl, (blk_cell BK966.out 2).trans rfl, (blk_cell BK982.out 0).trans rfl, (blk_cell BK982.out 1).trans rfl, (blk_cell BK982.out 2).trans rfl, (blk_cell BK943.out 0).trans rfl, (blk_cell BK943.out 1).trans rfl, (blk_cell BK943.out 2).trans rfl, (blk_cell BK949.out 0).trans rfl, (blk_cell BK949.out 1).trans rfl, (blk_cell BK949.out 2).trans rfl, (blk_cell BK955.out 0).trans rfl, (blk_cell BK955.out 1).trans rfl, (blk_cell BK955.out 2).trans rfl⟩ (fun hHeld => ?_)
  clear hK K
  refine norm_ (a' := ?_) ?_ ?_
  rotate_left
  ·
   show Act.put _ (some 112) _ = _
   simp only [Act.put, sa0, sa1, sa2, i64_w, i32_w]
   rfl
  refine one_ (i := 81) (N := some 113) #[true, true, true, true, true, true, true, true, true, true, true, true, true, true, true, true, true, true, true, true, true, true, true, true, true, true, true, true, true, true, true, true, true, true, true, true, true, true, true, true, true, true, true, true, true, true, true, true, true, true, true, true, true, true, true, true, true, true, true, true, true, true, true, true, true, true, true, true, true, true, true, true, true, true, true, true, true, true, true, true, true, true, false, false] rfl rfl (one_of HT_.out (by kernel_rfl)) (by decide) (fun K hK => ?_)
  refine goes_ Tryd.func28 (by kernel_rfl) rfl #[.agg #[.bool t1050, .slice Ao131 t1051.length co131, .int .i64 t1054], .agg #[.bool t1060, .slice Ao132 t1061.length co132, .int .i64 t1064]] (by rfl) rfl rfl ga ?_
  with_reducible refine (dyad_Num_Same.calls k t1050 _ _ t1051 t1054 t1060 _ _ t1061 t1064 t1065 _ ?side1 ?side2 ?side3 ?side4 A90.out).mono ?_
  (case side1 => exact kvs HO1053)
  (case side2 => exact (Kd.V_reads' HO1053.out).2.1)
  (case side3 => exact kvs HO1063)
  (case side4 => exact (Kd.V_reads' HO1063.out).2.1)
  rintro e w133 ⟨rfl, hb⟩
  refine ⟨_, rfl, ?_⟩
  refine ax28 (Kd.V_below (kv HO941) hb) (Kd.V_below (kv HO947) hb) (Kd.V_below (kv HO953) hb) (Kd.V_below (kv HO959) hb) (Kd.V_below (kv HO964) hb) (Kd.V_below (kv HO970) hb) (Kd.V_below (kv HO975) hb) (Kd.V_below (kv HO980) hb) (Kd.V_below (kv HO987) hb) (Kd.V_below (kv HO992) hb) (Kd.V_below (kv HO997) hb) (Kd.V_below (kv HO1002) hb) (Kd.V_below (kv HO1008) hb) (Kd.V_below (kv HO1013) hb) (Kd.V_below (kv HO1019) hb) (Kd.V_below (kv HO1029) hb) (Kd.V_below (kv HO1035) hb) (Kd.V_below (kv HO1040) hb) (Kd.V_below (kv HO1046) hb) (Kd.V_below (kv HO1053) hb) (Kd.V_below (kv HO1058) hb) (Kd.V_below (kv HO1063) hb) (bb BK943 hb) (bb BK949 hb) (bb BK955 hb) (bb BK966 hb) (bb BK982 hb) (below_step bes hb) ?_
  clear HO941 HO947 HO953 HO959 HO964 HO970 HO975 HO980 HO987 HO992 HO997 HO1002 HO1008 HO1013 HO1019 HO1029 HO1035 HO1040 HO1046 HO1053 HO1058 HO1063 BK943 BK949 BK955 BK966 BK982 HB
  intro HO941 HO947 HO953 HO959 HO964 HO970 HO975 HO980 HO987 HO992 HO997 HO1002 HO1008 HO1013 HO1019 HO1029 HO1035 HO1040 HO1046 HO1053 HO1058 HO1063 BK943 BK949 BK955 BK966 BK982 HB
  (try clear hb)
  (try clear hb2)
  (try clear hk)
  (try clear hi)
  refine hK.out _ _ ⟨(blk_cell BK966.out 0).trans rfl, (blk_cell BK966.out 1).trans rfl, (blk_cell BK966.out 2).trans rfl, (blk_cell BK982.out 0).trans rfl, (blk_cell BK982.out 1).trans rfl, (blk_cell BK982.out 2).trans rfl, (blk_cell BK943.out 0).trans rfl, (blk_cell BK943.out 1).trans rfl, (blk_cell BK943.out 2).trans rfl, (blk_cell BK949.out 0).trans rfl, (blk_cell BK949.out 1).trans rfl, (blk_cell BK949.out 2).trans rfl, (blk_cell BK955.out 0).trans rfl, (blk_cell BK955.out 1).trans rfl, (blk_cell BK955.out 2).trans rfl⟩ (fun hHeld => ?_)
  clear hK K
  refine norm_ (a' := ?_) ?_ ?_
  rotate_left
  ·
   show Act.put _ (some 113) _ = _
   simp only [Act.put, sa0, sa1, sa2, i64_w, i32_w]
   rfl
  refine pure_ (i := 82) (N := some 114) (v := ?_) (a' := ?_) #[true, true, true, true, true, true, true, true, true, true, true, true, true, true, true, true, true, true, true, true, true, true, true, true, true, true, true, true, true, true, true, true, true, true, true, true, true, true, true, true, true, true, true, true, true, true, true, true, true, true, true, true, true, true, true, true, true, true, true, true, true, true, true, true, true, true, true, true, true, true, true, true, true, true, true, true, true, true, true, true, true, true, true, false] rfl rfl (any_of HT_.out (by kernel_rfl)) (fun _ _ _ h => h) (Or.inl ⟨by rfl, ?_⟩) ?_ ?_
  rotate_left
  ·
   intro w'
   go_simp
   with_reducible rfl
  rotate_left
  ·
   simp only [Act.put, sa0, sa1, sa2, i64_w, i32_w]
   rfl
  refine pure_ (i := 83) (N := some 6) (v := ?_) (a' := ?_) #[true, true, true, true, true, true, true, true, true, true, true, true, true, true, true, true, true, true, true, true, true, true, true, true, true, true, true, true, true, true, true, true, true, true, true, true, true, true, true, true, true, true, true, true, true, true, true, true, true, true, true, true, true, true, true, true, true, true, true, true, true, true, true, true, true, true, true, true, true, true, true, true, true, true, true, true, true, true, true, true, true, true, true, true] rfl rfl (any_of HT_.out (by kernel_rfl)) (fun _ _ _ h => h) (Or.inl ⟨by rfl, ?_⟩) ?_ ?_
  rotate_left
  ·
   intro w'
   go_simp
   with_reducible rfl
  rotate_left
  ·
   simp only [Act.put, sa0, sa1, sa2, i64_w, i32_w]
   rfl
  refine done_ (done_of HT_.out (by kernel_rfl)) ?_
  try go_wp2
  go_meet
  case rel => exact ⟨_, (t1065), (by first | rfl | (simp; done) | (simp [*]; done)), H', ⟨by first | omega | exact Nat.le_refl _⟩, ⟨kv HO941⟩, ⟨kv HO947⟩, ⟨kv HO953⟩, ⟨kv HO964⟩, ⟨kv HO980⟩, ⟨kb BK943⟩, ⟨kb BK949⟩, ⟨kb BK955⟩, ⟨kb BK966⟩, ⟨kb BK982⟩, ⟨bes⟩⟩
 case rest =>
  clear HC14
  try clear c1
  try clear c2
  try clear p2
  try clear c5
  try clear c6
  try clear p6
  try clear c7
  try clear c8
  try clear c11
  try clear c13
  try clear c25
  try clear c28
  try clear c56
  try clear c62
  try clear p64
  try clear c66
  try clear c69
  try clear c69b0
  try clear c69b1
  try clear c72
  try clear c72b0
  try clear c72b1
  try clear c75
  try clear c75b0
  try clear c75b1
  try clear c75b2
  try clear c78
  try clear c78b0
  try clear c82
  try clear c86
  try clear c86b0
  try clear c86b1
  obtain ⟨kq, x6_13, rfl, HA, HJ13, HO_944001, HO_950001, HO_956001, HO_967001, HO_983001, BK943, BK949, BK955, BK966, BK982, HB⟩ := hcut
  cases kq with
  | zero => exact absurd HA.out (by simp [gimballaw07_DyadLaws.j0])
  | succ kj13 =>
   have H := HA.out
   clear HA
   simp only [gimballaw07_DyadLaws.j0] at H
   obtain rfl := Option.some.inj H
   go_wp2
   go_ret
   exact ⟨er, bes⟩
/-- THE ONE PURE STATEMENT of gimballaw07_DyadLaws: yours. -/
def gimballaw07_DyadLaws.Pure : Prop := ∀ (a0 : Int) (a1 : Int) (a2 : Int), (Lit.int .u64 a0).wf = true → (Lit.int .u64 a1).wf = true → (Lit.int .u64 a2).wf = true → ∃ k, gimballaw07_DyadLaws.f k a0 a1 a2 = some true
theorem gimballaw07_DyadLaws.walk (P : gimballaw07_DyadLaws.Pure) (a0 : Int) (a1 : Int) (a2 : Int) (w : World) (w0 : (Lit.int .u64 a0).wf = true) (w1 : (Lit.int .u64 a1).wf = true) (w2 : (Lit.int .u64 a2).wf = true) (hT : TabW w) :
  Calls Tryd.prog 6 #[.int .u64 a0, .int .u64 a1, .int .u64 a2] w fun e w' => e = .returned (.bool true) ∧ Below w.heap.size w w' := by
 obtain ⟨k, h⟩ := P a0 a1 a2 w0 w1 w2
 refine (gimballaw07_DyadLaws.calls k a0 a1 a2 true w hT rfl h).mono ?_
 rintro e w' ⟨rfl, hd⟩
 exact ⟨rfl, hd⟩

end Go.Proofs.YtakegikedpcilaaDoor.F
