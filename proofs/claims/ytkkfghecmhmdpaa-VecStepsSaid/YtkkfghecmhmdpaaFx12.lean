-- Written by a program of this seat's session (mkprint), out of the translation.
import Derived.Test.YtkkfghecmhmdpaaShort
import Derived.Test.YtkkfghecmhmdpaaFx0
import Derived.Test.YtkkfghecmhmdpaaFx5
import Derived.Test.YtkkfghecmhmdpaaFx6
import Derived.Test.YtkkfghecmhmdpaaFx7
namespace Go.Proofs.Ytkkfghecmhmdpaa.F
open Go.RowKit Go.Proofs.YtkkfghecmhmdpaaW.PrintWords Go.Proofs.YtkkfghecmhmdpaaW.PrintLast Go.Proofs.YtkkfghecmhmdpaaW.PrintMore
attribute [local go_sem] max2_int min2_int max_two min_two max_three min_three max_four min_four   -- for this text's walks alone
set_option linter.unusedVariables false
set_option linter.unusedSimpArgs false

/-! ### vec_Dot: function 15 -/
def vec_Dot.l0 : Nat → List Int → List Int → Int → Int → Int → Int → Option (Int × Int × Int)
 | 0, _, _, _, _, _, _ => none
 | k + 1, x1, x2, x8, x16, x17, x1000 => if x17 < x16 then (if 0 ≤ x17 then (if x17 < (x1.length : Int) then (if x17 < (x2.length : Int) then ((soft_Calc_Mul.f k x1000 (rd x1 x17) (rd x2 x17)).bind fun bt378 => ((soft_Calc_Add.f k bt378.2 x8 bt378.1).bind fun bt380 => (vec_Dot.l0 k x1 x2 bt380.1 x16 (wrap64 (x17 + 1)) bt380.2))) else (none)) else (none)) else (none)) else (some (x8, 0, x1000))
def vec_Dot.f (k : Nat) (s0_0 : Int) (l1 : List Int) (l2 : List Int) : Option (Int × Int × Int) := if (l1.length : Int) = (l2.length : Int) then (vec_Dot.l0 k l1 l2 0 (l1.length : Int) 0 s0_0) else (some (9221120237041090560, 4, s0_0))
theorem vec_Dot.mono_l : ∀ k, (∀ y0 y1 y2 y3 y4 y5, LeO (vec_Dot.l0 k y0 y1 y2 y3 y4 y5) (vec_Dot.l0 (k + 1) y0 y1 y2 y3 y4 y5))
 | 0 => fun _ _ _ _ _ _ r h => by simp [vec_Dot.l0] at h
 | k + 1 => by
  have ih0 := vec_Dot.mono_l k
  ·
   intro y0 y1 y2 y3 y4 y5
   unfold vec_Dot.l0
   repeat' with_reducible first | apply ih0 | apply soft_Calc_Add.mono | apply soft_Calc_Mul.mono | exact LeO.refl _ | exact LeO.none _ | refine LeO.ite ?_ ?_ | refine LeO.bind ?_ (fun _ => ?_)
theorem vec_Dot.mono : ∀ a0 a1 a2 k, LeO (vec_Dot.f k a0 a1 a2) (vec_Dot.f (k + 1) a0 a1 a2) := by
 intro a0 a1 a2 k
 have ih0 := vec_Dot.mono_l k
 unfold vec_Dot.f
 repeat' with_reducible first | apply ih0 | apply soft_Calc_Add.mono | apply soft_Calc_Mul.mono | exact LeO.refl _ | exact LeO.none _ | refine LeO.ite ?_ ?_ | refine LeO.bind ?_ (fun _ => ?_)
def vec_Dot.T7 : Bool × List (List Nat × List Nat) := (true, [([], []), ([], []), ([], []), ([], []), ([], []), ([3, 4], [3, 4]), ([5], [5]), ([], []), ([], []), ([7, 8], [7, 8]), ([9], [9]), ([2, 6, 10], [2, 6, 10]), ([0, 1, 11, 11], [0, 1, 11]), ([12, 12, 0, 1, 2, 3, 4, 5, 6, 7, 8, 9, 10, 11, 12], [1, 12])])
def vec_Dot.B7 : List Nat := [0, 0, 0, 0, 0, 24, 56, 0, 0, 384, 896, 2044, 4095, 8191]
theorem vec_Dot.tab7 : rtab .any (opsOf Try.f15 7) = vec_Dot.T7 := by kernel_rfl
theorem vec_Dot.bits7 : waitsOk vec_Dot.T7.2 vec_Dot.B7 = true := by kernel_rfl
set_option maxHeartbeats 8000000 in
set_option maxRecDepth 100000 in
theorem vec_Dot.calls (k : Nat) (g : Nat) (s0_0 : Int) (A1 : Option Addr) (c1 : Nat) (l1 : List Int) (A2 : Option Addr) (c2 : Nat) (l2 : List Int) (r1 : Int) (r2 : Int) (r3 : Int) (w0 w : World) (hI : IsS27 w0 w g s0_0) (hB : Below w0.heap.size w0 w) (hr1 : Kd.C (Kd.int .u64) w A1 l1.length l1) (hc1 : l1.length ≤ c1) (hf1 : ∀ ad, A1 = some ad → 0 < l1.length → ad.block ≠ g) (hr2 : Kd.C (Kd.int .u64) w A2 l2.length l2) (hc2 : l2.length ≤ c2) (hf2 : ∀ ad, A2 = some ad → 0 < l2.length → ad.block ≠ g) (h : vec_Dot.f k s0_0 l1 l2 = some (r1, r2, r3)) :
  Calls Try.prog 15 #[.pointer (some ⟨g, 0, none⟩), .slice A1 l1.length c1, .slice A2 l2.length c2] w fun e w' => e = .returned (.tuple #[.int .u64 r1, .int .i64 r2]) ∧ IsS27 w0 w' g r3 ∧ Below w0.heap.size w0 w' ∧ KeepBut w w' g none := by
 have HR1 := Aside0.mk hr1
 have HC1 := Aside0.mk hc1
 clear hr1 hc1
 have HR2 := Aside0.mk hr2
 have HC2 := Aside0.mk hc2
 clear hr2 hc2
 have HI0 := Aside0.mk hI
 have HK := Aside0.mk (KeepBut.refl w g none)
 have HL := Aside0.mk hB.size
 clear hI
 have HW0 := Aside0.mk hB.size
 have HB := Aside0.mk hB
 clear hB
 have H : (if (l1.length : Int) = (l2.length : Int) then (vec_Dot.l0 k l1 l2 0 (l1.length : Int) 0 s0_0) else (some (9221120237041090560, 4, s0_0))) = some (r1, r2, r3) := h
 clear h
 by_cases c4 : (l1.length : Int) = (l2.length : Int)
 rotate_left
 ·
  rw [if_neg c4] at H
  have c4b0 : ((l1.length : Int) == (l2.length : Int)) = false := beq_eq_false_iff_ne.mpr c4
  have c4b1 : ((l1.length : Int) != (l2.length : Int)) = true := bne_iff_ne.mpr c4
  have c4b2 : (l1.length == l2.length) = false := by first | simpa using c4 | (simp at c4 ⊢; omega)
  simp only [Option.some.injEq, Prod.mk.injEq] at H
  obtain ⟨rfl, rfl, rfl⟩ := H
  go_enter Try.func15, Try.ntmps15
  go_wp2
  go_ret2
  exact ⟨er, by repeat (first | (with_reducible first | exact HI0.out | apply IsS27.alloc | apply IsS27.drewN | apply IsS27.drew | apply IsS27.set_0) | exact HI0.out), by repeat (first | (with_reducible first | exact HB.out | apply below_alloc | apply pw_below_drewN | apply below_drew1 | refine below_set ?_ (IsS27.ge HI0.out)) | exact HB.out), by repeat (first | (with_reducible first | exact HK.out | apply KeepBut.set_ | apply keep_drewN | apply keep_drew | apply keep_alloc) | exact HK.out)⟩

 rw [if_pos c4] at H
 have c4b0 : ((l1.length : Int) == (l2.length : Int)) = true := beq_iff_eq.mpr c4
 have c4b1 : ((l1.length : Int) != (l2.length : Int)) = false := bne_eq_false_iff_eq.mpr c4
 have c4b2 : (l1.length == l2.length) = true := by first | simpa using c4 | (simp at c4 ⊢; omega)
 clear c4
 have H' := Aside0.mk H
 clear H
 go_enter Try.func15, Try.ntmps15
 go_wp2
 go_loopg [8, 17] k (fun kq v8 v17 w' => ∃ (x8_1 : Int) (x17_1 : Int) (x1000_1 : Int), v8 = .int .u64 x8_1 ∧ v17 = .int .i64 x17_1 ∧ Aside0 (vec_Dot.l0 kq l1 l2 x8_1 (l1.length : Int) x17_1 x1000_1 = some (r1, r2, r3)) ∧ Aside0 (kq ≤ k) ∧ Aside0 (IsS27 w0 w' g x1000_1) ∧ Aside0 (KeepBut w w' g none) ∧ Aside0 (Below w0.heap.size w0 w'))
 case atStart => exact ⟨(0), (0), (s0_0), (by first | rfl | (simp; done) | (simp [*]; done)), (by first | rfl | (simp; done) | (simp [*]; done)), H', ⟨Nat.le_refl _⟩, ⟨by repeat (first | (with_reducible first | exact HI0.out | apply IsS27.alloc | apply IsS27.drewN | apply IsS27.drew | apply IsS27.set_0) | exact HI0.out)⟩, ⟨by repeat (first | (with_reducible first | exact HK.out | apply KeepBut.set_ | apply keep_drewN | apply keep_drew | apply keep_alloc) | exact HK.out)⟩, ⟨by repeat (first | (with_reducible first | exact HB.out | apply below_alloc | apply pw_below_drewN | apply below_drew1 | refine below_set ?_ (IsS27.ge HI0.out)) | exact HB.out)⟩⟩
 case round =>
  clear H'
  try clear c1
  try clear c2
  try clear p2
  try clear c4
  try clear c4b0
  try clear c4b1
  try clear c4b2
  obtain ⟨x8_1, x17_1, x1000_1, rfl, rfl, HA, HK1, HI0, HK, HB⟩ := hrel
  cases gk with
  | zero => exact absurd HA.out (by simp [vec_Dot.l0])
  | succ k1 =>
   have H := HA.out
   clear HA
   simp only [vec_Dot.l0] at H
   by_cases c5 : x17_1 < (l1.length : Int)
   rotate_left
   ·
    rw [if_neg c5] at H
    have c5b0 : decide (x17_1 < (l1.length : Int)) = false := decide_eq_false c5
    clear c5
    simp only [Option.some.injEq, Prod.mk.injEq] at H
    obtain ⟨rfl, rfl, rfl⟩ := H
    go_wp2
    go_ret2
    exact ⟨er, by repeat (first | (with_reducible first | exact HI0.out | apply IsS27.alloc | apply IsS27.drewN | apply IsS27.drew | apply IsS27.set_0) | exact HI0.out), by repeat (first | (with_reducible first | exact HB.out | apply below_alloc | apply pw_below_drewN | apply below_drew1 | refine below_set ?_ (IsS27.ge HI0.out)) | exact HB.out), by repeat (first | (with_reducible first | exact HK.out | apply KeepBut.set_ | apply keep_drewN | apply keep_drew | apply keep_alloc) | exact HK.out)⟩
   rw [if_pos c5] at H
   have c5b0 : decide (x17_1 < (l1.length : Int)) = true := decide_eq_true c5
   clear c5
   by_cases c6 : 0 ≤ x17_1
   rotate_left
   ·
    rw [if_neg c6] at H
    exact absurd H (by simp)
   rw [if_pos c6] at H
   have c6b0 : decide (0 ≤ x17_1) = true := decide_eq_true c6
   clear c6
   by_cases c7 : x17_1 < (l1.length : Int)
   rotate_left
   ·
    rw [if_neg c7] at H
    exact absurd H (by simp)
   rw [if_pos c7] at H
   have c7b0 : decide (x17_1 < (l1.length : Int)) = true := decide_eq_true c7
   clear c7
   by_cases c8 : x17_1 < (l2.length : Int)
   rotate_left
   ·
    rw [if_neg c8] at H
    exact absurd H (by simp)
   rw [if_pos c8] at H
   have c8b0 : decide (x17_1 < (l2.length : Int)) = true := decide_eq_true c8
   clear c8
   obtain ⟨⟨t378, t379⟩, A90, H⟩ := Option.bind_eq_some_iff.mp H
   (try dsimp -simprocs only at H)
   have A9 := Aside0.mk A90
   clear A90
   obtain ⟨⟨t380, t381⟩, A100, H⟩ := Option.bind_eq_some_iff.mp H
   (try dsimp -simprocs only at H)
   have A10 := Aside0.mk A100
   clear A100
   have H' := Aside0.mk H
   clear H
   try go_wp2
   refine ax3 (IsS27.drew HI0.out) (keep_drew HK.out) (below_drew1 HB.out) ?_
   clear HI0 HK HB
   intro HI0 HK HB
   have p376 : 0 ≤ (x17_1 : Int) := of_decide_eq_true (by first | (with_reducible assumption) | assumption)
   have q376 : x17_1 < (l1.length : Int) := of_decide_eq_true (by first | (with_reducible assumption) | assumption)
   obtain ⟨ad376, e376, hx376_0⟩ := Kd.at_int HR1.out x17_1 p376 q376
   have hw376_0 := hx376_0
   cases e376
   have hne376_0 := (show ((ad376.add (x17_1).toNat) : Addr).block ≠ g from by first | (rw [add_block]; exact hf1 ad376 rfl (by omega)) | (show (Addr.add _ _).block ≠ _; rw [add_block]; exact hf1 ad376 rfl (by omega)) | exact hf1 ad376 rfl (by omega))
   replace hx376_0 := keep_cell HK.out hx376_0 (by first | (rw [add_block]; exact hf1 _ rfl (by omega)) | exact hf1 _ rfl (by omega) | exact hf1 ad376 rfl (by omega))
   replace p376 := eq_true p376
   replace q376 := eq_true q376
   have p377 : 0 ≤ (x17_1 : Int) := of_decide_eq_true (by first | (with_reducible assumption) | assumption)
   have q377 : x17_1 < (l2.length : Int) := of_decide_eq_true (by first | (with_reducible assumption) | assumption)
   obtain ⟨ad377, e377, hx377_0⟩ := Kd.at_int HR2.out x17_1 p377 q377
   have hw377_0 := hx377_0
   cases e377
   have hne377_0 := (show ((ad377.add (x17_1).toNat) : Addr).block ≠ g from by first | (rw [add_block]; exact hf2 ad377 rfl (by omega)) | (show (Addr.add _ _).block ≠ _; rw [add_block]; exact hf2 ad377 rfl (by omega)) | exact hf2 ad377 rfl (by omega))
   replace hx377_0 := keep_cell HK.out hx377_0 (by first | (rw [add_block]; exact hf2 _ rfl (by omega)) | exact hf2 _ rfl (by omega) | exact hf2 ad377 rfl (by omega))
   replace p377 := eq_true p377
   replace q377 := eq_true q377
   refine start_ (n := 14) (S := fun w' => w'.cell? (ad376.add (x17_1).toNat) = some (.int .u64 (rd l1 x17_1)) ∧ w'.cell? (ad377.add (x17_1).toNat) = some (.int .u64 (rd l2 x17_1))) (ds := []) #[false, false, false, false, false, false, false, false, false, false, false, false, false, false] (by kernel_rfl) rfl rfl ⟨(keep_cell HK.out hw376_0 hne376_0), (keep_cell HK.out hw377_0 hne377_0)⟩ (fun hHeld => ?_); refine with_tabW vec_Dot.tab7 vec_Dot.bits7 (fun HT_ HW_ => ?_)
   generalize wr.drew = w11 at HI0 HK HB hx376_0 hx377_0 hHeld ⊢
   refine pure_ (i := 0) (N := some 20) (v := ?_) (a' := ?_) #[true, false, false, false, false, false, false, false, false, false, false, false, false, false] rfl rfl (any_of HT_.out (by kernel_rfl)) (fun _ _ _ h => h) (Or.inl ⟨by rfl, ?_⟩) ?_ ?_
   rotate_left
   ·
    intro w'
    go_simp
    with_reducible rfl
   rotate_left
   ·
    simp only [Act.put, sa0, sa1, sa2, i64_w, i32_w]
    rfl
   refine pure_ (i := 1) (N := some 21) (v := ?_) (a' := ?_) #[true, true, false, false, false, false, false, false, false, false, false, false, false, false] rfl rfl (any_of HT_.out (by kernel_rfl)) (fun _ _ _ h => h) (Or.inl ⟨by rfl, ?_⟩) ?_ ?_
   rotate_left
   ·
    intro w'
    go_simp
    with_reducible rfl
   rotate_left
   ·
    simp only [Act.put, sa0, sa1, sa2, i64_w, i32_w]
    rfl
   refine pure_ (i := 2) (N := some 22) (v := ?_) (a' := ?_) #[true, true, true, false, false, false, false, false, false, false, false, false, false, false] rfl rfl (any_of HT_.out (by kernel_rfl)) (fun _ _ _ h => h) (Or.inl ⟨by rfl, ?_⟩) ?_ ?_
   rotate_left
   ·
    intro w'
    go_simp
    with_reducible rfl
   rotate_left
   ·
    simp only [Act.put, sa0, sa1, sa2, i64_w, i32_w]
    rfl
   refine pure_ (i := 3) (N := some 23) (v := ?_) (a' := ?_) #[true, true, true, true, false, false, false, false, false, false, false, false, false, false] rfl rfl (any_of HT_.out (by kernel_rfl)) (fun _ _ _ h => h) (Or.inl ⟨by rfl, ?_⟩) ?_ ?_
   rotate_left
   ·
    intro w'
    go_simp
    with_reducible rfl
   rotate_left
   ·
    simp only [Act.put, sa0, sa1, sa2, i64_w, i32_w]
    rfl
   refine pure_ (i := 4) (N := some 24) (v := ?_) (a' := ?_) #[true, true, true, true, true, false, false, false, false, false, false, false, false, false] rfl rfl (any_of HT_.out (by kernel_rfl)) (fun _ _ _ h => h) (Or.inl ⟨by rfl, ?_⟩) ?_ ?_
   rotate_left
   ·
    intro w'
    go_simp
    with_reducible rfl
   rotate_left
   ·
    simp only [Act.put, sa0, sa1, sa2, i64_w, i32_w]
    rfl
   refine pure_ (i := 5) (N := some 25) (v := ?_) (a' := ?_) #[true, true, true, true, true, true, false, false, false, false, false, false, false, false] rfl rfl (any_of HT_.out (by kernel_rfl)) (fun _ _ _ h => h) (Or.inl ⟨by rfl, ?_⟩) ?_ ?_
   rotate_left
   ·
    intro w'
    go_simp
    with_reducible rfl
   rotate_left
   ·
    simp only [Act.put, sa0, sa1, sa2, i64_w, i32_w]
    rfl
   refine pure_ (i := 7) (N := some 27) (v := ?_) (a' := ?_) #[true, true, true, true, true, true, false, true, false, false, false, false, false, false] rfl rfl (any_of HT_.out (by kernel_rfl)) (fun _ _ _ h => h) (Or.inl ⟨by rfl, ?_⟩) ?_ ?_
   rotate_left
   ·
    intro w'
    go_simp
    with_reducible rfl
   rotate_left
   ·
    simp only [Act.put, sa0, sa1, sa2, i64_w, i32_w]
    rfl
   refine pure_ (i := 8) (N := some 28) (v := ?_) (a' := ?_) #[true, true, true, true, true, true, false, true, true, false, false, false, false, false] rfl rfl (any_of HT_.out (by kernel_rfl)) (fun _ _ _ h => h) (Or.inl ⟨by rfl, ?_⟩) ?_ ?_
   rotate_left
   ·
    intro w'
    go_simp
    with_reducible rfl
   rotate_left
   ·
    simp only [Act.put, sa0, sa1, sa2, i64_w, i32_w]
    rfl
   refine pure_ (i := 9) (N := some 29) (v := ?_) (a' := ?_) #[true, true, true, true, true, true, false, true, true, true, false, false, false, false] rfl rfl (any_of HT_.out (by kernel_rfl)) (fun _ _ _ h => h) (Or.inl ⟨by rfl, ?_⟩) ?_ ?_
   rotate_left
   ·
    intro w'
    go_simp
    with_reducible rfl
   rotate_left
   ·
    simp only [Act.put, sa0, sa1, sa2, i64_w, i32_w]
    rfl
   refine take_ (i := 6) (N := some 26) (v := ?_) (a' := ?_) #[true, true, true, true, true, true, true, true, true, true, false, false, false, false] rfl rfl (take_ofW HT_.out HW_.out (by kernel_rfl)) (fun _ _ _ h => h) (Or.inl ⟨by rfl, ?_⟩) hHeld ?_ ?_
   rotate_left
   ·
    rintro w' ⟨s0, s1⟩
    go_simp
    with_reducible rfl
   rotate_left
   ·
    simp only [Act.put, sa0, sa1, sa2, i64_w, i32_w]
    rfl
   refine take_ (i := 10) (N := some 30) (v := ?_) (a' := ?_) #[true, true, true, true, true, true, true, true, true, true, true, false, false, false] rfl rfl (take_ofW HT_.out HW_.out (by kernel_rfl)) (fun _ _ _ h => h) (Or.inl ⟨by rfl, ?_⟩) hHeld ?_ ?_
   rotate_left
   ·
    rintro w' ⟨s0, s1⟩
    go_simp
    with_reducible rfl
   rotate_left
   ·
    simp only [Act.put, sa0, sa1, sa2, i64_w, i32_w]
    rfl
   refine one_ (i := 11) (N := some 31) #[true, true, true, true, true, true, true, true, true, true, true, true, false, false] rfl rfl (one_of HT_.out (by kernel_rfl)) (by decide) (fun K hK => ?_)
   refine goes_ Try.func12 (by kernel_rfl) rfl #[.pointer (some ⟨g, 0, none⟩), .int .u64 (rd l1 x17_1), .int .u64 (rd l2 x17_1)] (by rfl) rfl rfl ga ?_
   with_reducible refine (soft_Calc_Mul.calls k1 g x1000_1 (rd l1 x17_1) (rd l2 x17_1) t378 t379 w0 _ ?side1 ?side2 A9.out).mono ?_
   (case side1 => repeat (first | (with_reducible first | exact HI0.out | apply IsS27.alloc | apply IsS27.drewN | apply IsS27.drew | apply IsS27.set_0) | exact HI0.out))
   (case side2 => repeat (first | (with_reducible first | exact HB.out | apply below_alloc | apply pw_below_drewN | apply below_drew1 | refine below_set ?_ (IsS27.ge HI0.out)) | exact HB.out))
   rintro e w12 ⟨rfl, hi, hb, hk⟩
   refine ⟨_, rfl, ?_⟩
   refine ax3 (KeepBut.trans (by repeat (first | (with_reducible first | exact HK.out | apply KeepBut.set_ | apply keep_drewN | apply keep_drew | apply keep_alloc) | exact HK.out)) hk (.inl rfl)) hb hi ?_
   clear HK HB HI0
   intro HK HB HI0
   (try clear hb)
   (try clear hb2)
   (try clear hk)
   (try clear hi)
   refine hK.out _ _ ⟨(keep_cell HK.out hw376_0 hne376_0), (keep_cell HK.out hw377_0 hne377_0)⟩ (fun hHeld => ?_)
   clear hK K
   refine norm_ (a' := ?_) ?_ ?_
   rotate_left
   ·
    show Act.put _ (some 31) _ = _
    simp only [Act.put, sa0, sa1, sa2, i64_w, i32_w]
    rfl
   refine one_ (i := 12) (N := some 32) #[true, true, true, true, true, true, true, true, true, true, true, true, true, false] rfl rfl (one_of HT_.out (by kernel_rfl)) (by decide) (fun K hK => ?_)
   refine goes_ Try.func11 (by kernel_rfl) rfl #[.pointer (some ⟨g, 0, none⟩), .int .u64 x8_1, .int .u64 t378] (by rfl) rfl rfl ga ?_
   with_reducible refine (soft_Calc_Add.calls k1 g t379 x8_1 t378 t380 t381 w0 _ ?side1 ?side2 A10.out).mono ?_
   (case side1 => repeat (first | (with_reducible first | exact HI0.out | apply IsS27.alloc | apply IsS27.drewN | apply IsS27.drew | apply IsS27.set_0) | exact HI0.out))
   (case side2 => repeat (first | (with_reducible first | exact HB.out | apply below_alloc | apply pw_below_drewN | apply below_drew1 | refine below_set ?_ (IsS27.ge HI0.out)) | exact HB.out))
   rintro e w13 ⟨rfl, hi, hb, hk⟩
   refine ⟨_, rfl, ?_⟩
   refine ax3 (KeepBut.trans (by repeat (first | (with_reducible first | exact HK.out | apply KeepBut.set_ | apply keep_drewN | apply keep_drew | apply keep_alloc) | exact HK.out)) hk (.inl rfl)) hb hi ?_
   clear HK HB HI0
   intro HK HB HI0
   (try clear hb)
   (try clear hb2)
   (try clear hk)
   (try clear hi)
   refine hK.out _ _ ⟨(keep_cell HK.out hw376_0 hne376_0), (keep_cell HK.out hw377_0 hne377_0)⟩ (fun hHeld => ?_)
   clear hK K
   refine norm_ (a' := ?_) ?_ ?_
   rotate_left
   ·
    show Act.put _ (some 32) _ = _
    simp only [Act.put, sa0, sa1, sa2, i64_w, i32_w]
    rfl
   refine pure_ (i := 13) (N := some 8) (v := ?_) (a' := ?_) #[true, true, true, true, true, true, true, true, true, true, true, true, true, true] rfl rfl (any_of HT_.out (by kernel_rfl)) (fun _ _ _ h => h) (Or.inl ⟨by rfl, ?_⟩) ?_ ?_
   rotate_left
   ·
    intro w'
    go_simp
    with_reducible rfl
   rotate_left
   ·
    simp only [Act.put, sa0, sa1, sa2, i64_w, i32_w]
    rfl
   refine done_ (done_of HT_.out (by kernel_rfl)) ?_
   try go_wp2
   go_roundg k1
   case measure => have := HK1.out; omega
   case rel => exact ⟨(t380), (wrap64 (x17_1 + 1)), (t381), (by first | rfl | (simp; done) | (simp [*]; done)), (by first | rfl | (simp; done) | (simp [*]; done)), H', ⟨by have := HK1.out; omega⟩, ⟨by repeat (first | (with_reducible first | exact HI0.out | apply IsS27.alloc | apply IsS27.drewN | apply IsS27.drew | apply IsS27.set_0) | exact HI0.out)⟩, ⟨by repeat (first | (with_reducible first | exact HK.out | apply KeepBut.set_ | apply keep_drewN | apply keep_drew | apply keep_alloc) | exact HK.out)⟩, ⟨by repeat (first | (with_reducible first | exact HB.out | apply below_alloc | apply pw_below_drewN | apply below_drew1 | refine below_set ?_ (IsS27.ge HI0.out)) | exact HB.out)⟩⟩
/-! ### vec_Axpy: function 16 -/
def vec_Axpy.l0 : Nat → Int → List Int → List Int → List Int → Int → Int → Int → Option (List Int × Int × Int)
 | 0, _, _, _, _, _, _, _ => none
 | k + 1, x1, x2, x3, x10, x18, x19, x1000 => if x19 < x18 then (if 0 ≤ x19 then (if x19 < (x2.length : Int) then ((soft_Calc_Mul.f k x1000 x1 (rd x2 x19)).bind fun bt387 => (if x19 < (x3.length : Int) then ((soft_Calc_Add.f k bt387.2 bt387.1 (rd x3 x19)).bind fun bt390 => (if x10.length < 17592186044416 then (vec_Axpy.l0 k x1 x2 x3 (x10 ++ [bt390.1]) x18 (wrap64 (x19 + 1)) bt390.2) else (none))) else (none))) else (none)) else (none)) else (some (x10, 0, x1000))
def vec_Axpy.f (k : Nat) (s0_0 : Int) (a1 : Int) (l2 : List Int) (l3 : List Int) : Option (List Int × Int × Int) := if (l2.length : Int) = (l3.length : Int) then (vec_Axpy.l0 k a1 l2 l3 ([] : List Int) (l2.length : Int) 0 s0_0) else (some (([] : List Int), 4, s0_0))
theorem vec_Axpy.mono_l : ∀ k, (∀ y0 y1 y2 y3 y4 y5 y6, LeO (vec_Axpy.l0 k y0 y1 y2 y3 y4 y5 y6) (vec_Axpy.l0 (k + 1) y0 y1 y2 y3 y4 y5 y6))
 | 0 => fun _ _ _ _ _ _ _ r h => by simp [vec_Axpy.l0] at h
 | k + 1 => by
  have ih0 := vec_Axpy.mono_l k
  ·
   intro y0 y1 y2 y3 y4 y5 y6
   unfold vec_Axpy.l0
   repeat' with_reducible first | apply ih0 | apply soft_Calc_Add.mono | apply soft_Calc_Mul.mono | exact LeO.refl _ | exact LeO.none _ | refine LeO.ite ?_ ?_ | refine LeO.bind ?_ (fun _ => ?_)
theorem vec_Axpy.mono : ∀ a0 a1 a2 a3 k, LeO (vec_Axpy.f k a0 a1 a2 a3) (vec_Axpy.f (k + 1) a0 a1 a2 a3) := by
 intro a0 a1 a2 a3 k
 have ih0 := vec_Axpy.mono_l k
 unfold vec_Axpy.f
 repeat' with_reducible first | apply ih0 | apply soft_Calc_Add.mono | apply soft_Calc_Mul.mono | exact LeO.refl _ | exact LeO.none _ | refine LeO.ite ?_ ?_ | refine LeO.bind ?_ (fun _ => ?_)
def vec_Axpy.T7 : Bool × List (List Nat × List Nat) := (true, [([], []), ([], []), ([], []), ([], []), ([], []), ([], []), ([4, 5], [4, 5]), ([6], [6]), ([2, 3, 7], [2, 3, 7]), ([], []), ([], []), ([9, 10], [9, 10]), ([11], [11]), ([1, 8, 12, 8], [1, 8, 12]), ([13], [13]), ([0, 14, 13], [0, 14]), ([15, 15, 0, 1, 2, 3, 4, 5, 6, 7, 8, 9, 10, 11, 12, 13, 14, 15], [0, 15])])
def vec_Axpy.B7 : List Nat := [0, 0, 0, 0, 0, 0, 48, 112, 252, 0, 0, 1536, 3584, 8190, 16382, 32767, 65535]
theorem vec_Axpy.tab7 : rtab .any (opsOf Try.f16 7) = vec_Axpy.T7 := by kernel_rfl
theorem vec_Axpy.bits7 : waitsOk vec_Axpy.T7.2 vec_Axpy.B7 = true := by kernel_rfl
set_option maxHeartbeats 8000000 in
set_option maxRecDepth 100000 in
theorem vec_Axpy.calls (k : Nat) (g : Nat) (s0_0 : Int) (a1 : Int) (A2 : Option Addr) (c2 : Nat) (l2 : List Int) (A3 : Option Addr) (c3 : Nat) (l3 : List Int) (r1 : List Int) (r2 : Int) (r3 : Int) (w0 w : World) (hI : IsS27 w0 w g s0_0) (hB : Below w0.heap.size w0 w) (hr2 : Kd.C (Kd.int .u64) w A2 l2.length l2) (hc2 : l2.length ≤ c2) (hf2 : ∀ ad, A2 = some ad → 0 < l2.length → ad.block ≠ g) (hr3 : Kd.C (Kd.int .u64) w A3 l3.length l3) (hc3 : l3.length ≤ c3) (hf3 : ∀ ad, A3 = some ad → 0 < l3.length → ad.block ≠ g) (h : vec_Axpy.f k s0_0 a1 l2 l3 = some (r1, r2, r3)) :
  Calls Try.prog 16 #[.pointer (some ⟨g, 0, none⟩), .int .u64 a1, .slice A2 l2.length c2, .slice A3 l3.length c3] w fun e w' => ∃ v0_ : Value, e = .returned (.tuple #[v0_, .int .i64 r2]) ∧ Kd.R (Kd.int .u64) 28 w' w.heap.size (fun _ => True) v0_ r1 ∧ IsS27 w0 w' g r3 ∧ Below w0.heap.size w0 w' ∧ KeepBut w w' g none := by
 have HR2 := Aside0.mk hr2
 have HC2 := Aside0.mk hc2
 clear hr2 hc2
 have HR3 := Aside0.mk hr3
 have HC3 := Aside0.mk hc3
 clear hr3 hc3
 have HI0 := Aside0.mk hI
 have HK := Aside0.mk (KeepBut.refl w g none)
 have HL := Aside0.mk hB.size
 clear hI
 have HW0 := Aside0.mk hB.size
 have HB := Aside0.mk hB
 clear hB
 have H : (if (l2.length : Int) = (l3.length : Int) then (vec_Axpy.l0 k a1 l2 l3 ([] : List Int) (l2.length : Int) 0 s0_0) else (some (([] : List Int), 4, s0_0))) = some (r1, r2, r3) := h
 clear h
 by_cases c5 : (l2.length : Int) = (l3.length : Int)
 rotate_left
 ·
  rw [if_neg c5] at H
  have c5b0 : ((l2.length : Int) == (l3.length : Int)) = false := beq_eq_false_iff_ne.mpr c5
  have c5b1 : ((l2.length : Int) != (l3.length : Int)) = true := bne_iff_ne.mpr c5
  have c5b2 : (l2.length == l3.length) = false := by first | simpa using c5 | (simp at c5 ⊢; omega)
  simp only [Option.some.injEq, Prod.mk.injEq] at H
  obtain ⟨rfl, rfl, rfl⟩ := H
  go_enter Try.func16, Try.ntmps16
  go_wp2
  go_ret2
  exact ⟨_, er, by first | exact Kd.R_nil _ _ _ _ _ | exact Kd.N_nil _ _ _ _ _ | exact Kd.V_nil _ _ _ _ _ | exact Kd.Q_nil _ _ _ _ _ | exact Kd.S_nil _ _ _ _ _, by repeat (first | (with_reducible first | exact HI0.out | apply IsS27.alloc | apply IsS27.drewN | apply IsS27.drew | apply IsS27.set_0) | exact HI0.out), by repeat (first | (with_reducible first | exact HB.out | apply below_alloc | apply pw_below_drewN | apply below_drew1 | refine below_set ?_ (IsS27.ge HI0.out)) | exact HB.out), by repeat (first | (with_reducible first | exact HK.out | apply KeepBut.set_ | apply keep_drewN | apply keep_drew | apply keep_alloc) | exact HK.out)⟩

 rw [if_pos c5] at H
 have c5b0 : ((l2.length : Int) == (l3.length : Int)) = true := beq_iff_eq.mpr c5
 have c5b1 : ((l2.length : Int) != (l3.length : Int)) = false := bne_eq_false_iff_eq.mpr c5
 have c5b2 : (l2.length == l3.length) = true := by first | simpa using c5 | (simp at c5 ⊢; omega)
 clear c5
 have H' := Aside0.mk H
 clear H
 go_enter Try.func16, Try.ntmps16
 go_wp2
 go_loopg [10, 19] k (fun kq v10 v19 w' => ∃ (x10_1 : List Int) (x19_1 : Int) (x1000_1 : Int), v19 = .int .i64 x19_1 ∧ Aside0 (vec_Axpy.l0 kq a1 l2 l3 x10_1 (l2.length : Int) x19_1 x1000_1 = some (r1, r2, r3)) ∧ Aside0 (kq ≤ k) ∧ Aside0 (Kd.R (Kd.int .u64) 28 w' w.heap.size (fun _ => True) v10 x10_1) ∧ Aside0 (IsS27 w0 w' g x1000_1) ∧ Aside0 (KeepBut w w' g none) ∧ Aside0 (Below w0.heap.size w0 w'))
 case atStart => exact ⟨(([] : List Int)), (0), (s0_0), (by first | rfl | (simp; done) | (simp [*]; done)), H', ⟨Nat.le_refl _⟩, ⟨by first | exact Kd.R_nil _ _ _ _ _ | exact Kd.N_nil _ _ _ _ _ | exact Kd.V_nil _ _ _ _ _ | exact Kd.Q_nil _ _ _ _ _ | exact Kd.S_nil _ _ _ _ _⟩, ⟨by repeat (first | (with_reducible first | exact HI0.out | apply IsS27.alloc | apply IsS27.drewN | apply IsS27.drew | apply IsS27.set_0) | exact HI0.out)⟩, ⟨by repeat (first | (with_reducible first | exact HK.out | apply KeepBut.set_ | apply keep_drewN | apply keep_drew | apply keep_alloc) | exact HK.out)⟩, ⟨by repeat (first | (with_reducible first | exact HB.out | apply below_alloc | apply pw_below_drewN | apply below_drew1 | refine below_set ?_ (IsS27.ge HI0.out)) | exact HB.out)⟩⟩
 case round =>
  clear H'
  try clear c1
  try clear c2
  try clear p2
  try clear c3
  try clear c5
  try clear c5b0
  try clear c5b1
  try clear c5b2
  obtain ⟨x10_1, x19_1, x1000_1, rfl, HA, HK1, HO_10, HI0, HK, HB⟩ := hrel
  cases gk with
  | zero => exact absurd HA.out (by simp [vec_Axpy.l0])
  | succ k1 =>
   have H := HA.out
   clear HA
   simp only [vec_Axpy.l0] at H
   by_cases c6 : x19_1 < (l2.length : Int)
   rotate_left
   ·
    rw [if_neg c6] at H
    have c6b0 : decide (x19_1 < (l2.length : Int)) = false := decide_eq_false c6
    clear c6
    simp only [Option.some.injEq, Prod.mk.injEq] at H
    obtain ⟨rfl, rfl, rfl⟩ := H
    go_wp2
    go_ret2
    exact ⟨_, er, kr HO_10, by repeat (first | (with_reducible first | exact HI0.out | apply IsS27.alloc | apply IsS27.drewN | apply IsS27.drew | apply IsS27.set_0) | exact HI0.out), by repeat (first | (with_reducible first | exact HB.out | apply below_alloc | apply pw_below_drewN | apply below_drew1 | refine below_set ?_ (IsS27.ge HI0.out)) | exact HB.out), by repeat (first | (with_reducible first | exact HK.out | apply KeepBut.set_ | apply keep_drewN | apply keep_drew | apply keep_alloc) | exact HK.out)⟩
   rw [if_pos c6] at H
   have c6b0 : decide (x19_1 < (l2.length : Int)) = true := decide_eq_true c6
   clear c6
   by_cases c7 : 0 ≤ x19_1
   rotate_left
   ·
    rw [if_neg c7] at H
    exact absurd H (by simp)
   rw [if_pos c7] at H
   have c7b0 : decide (0 ≤ x19_1) = true := decide_eq_true c7
   clear c7
   by_cases c8 : x19_1 < (l2.length : Int)
   rotate_left
   ·
    rw [if_neg c8] at H
    exact absurd H (by simp)
   rw [if_pos c8] at H
   have c8b0 : decide (x19_1 < (l2.length : Int)) = true := decide_eq_true c8
   clear c8
   obtain ⟨⟨t387, t388⟩, A90, H⟩ := Option.bind_eq_some_iff.mp H
   (try dsimp -simprocs only at H)
   have A9 := Aside0.mk A90
   clear A90
   by_cases c10 : x19_1 < (l3.length : Int)
   rotate_left
   ·
    rw [if_neg c10] at H
    exact absurd H (by simp)
   rw [if_pos c10] at H
   have c10b0 : decide (x19_1 < (l3.length : Int)) = true := decide_eq_true c10
   clear c10
   obtain ⟨⟨t390, t391⟩, A110, H⟩ := Option.bind_eq_some_iff.mp H
   (try dsimp -simprocs only at H)
   have A11 := Aside0.mk A110
   clear A110
   by_cases c12 : x10_1.length < 17592186044416
   rotate_left
   ·
    rw [if_neg c12] at H
    exact absurd H (by simp)
   rw [if_pos c12] at H
   have LMc12 := Aside0.mk c12
   clear c12
   obtain ⟨y392, hy392⟩ : ∃ y_ : List Int, y_ = (x10_1 ++ [t390]) := ⟨_, rfl⟩
   replace H : (vec_Axpy.l0 k1 a1 l2 l3 y392 (l2.length : Int) (wrap64 (x19_1 + 1)) t391) = some (r1, r2, r3) := by first | (rw [hy392]; with_reducible exact H) | (have H2_ := (Option.bind_some _ _).symm.trans H; rw [hy392]; with_reducible exact H2_) | (have H2_ := (Option.bind_some _ _).symm.trans H; with_reducible exact H2_) | with_reducible exact H | (rw [hy392]; exact H) | exact H
   have Ny392 := Aside0.mk hy392
   clear hy392
   have H' := Aside0.mk H
   clear H
   try go_wp2
   refine ax4 (Kd.R_drew HO_10.out) (IsS27.drew HI0.out) (keep_drew HK.out) (below_drew1 HB.out) ?_
   clear HO_10 HI0 HK HB
   intro HO_10 HI0 HK HB
   have p386 : 0 ≤ (x19_1 : Int) := of_decide_eq_true (by first | (with_reducible assumption) | assumption)
   have q386 : x19_1 < (l2.length : Int) := of_decide_eq_true (by first | (with_reducible assumption) | assumption)
   obtain ⟨ad386, e386, hx386_0⟩ := Kd.at_int HR2.out x19_1 p386 q386
   have hw386_0 := hx386_0
   cases e386
   have hne386_0 := (show ((ad386.add (x19_1).toNat) : Addr).block ≠ g from by first | (rw [add_block]; exact hf2 ad386 rfl (by omega)) | (show (Addr.add _ _).block ≠ _; rw [add_block]; exact hf2 ad386 rfl (by omega)) | exact hf2 ad386 rfl (by omega))
   replace hx386_0 := keep_cell HK.out hx386_0 (by first | (rw [add_block]; exact hf2 _ rfl (by omega)) | exact hf2 _ rfl (by omega) | exact hf2 ad386 rfl (by omega))
   replace p386 := eq_true p386
   replace q386 := eq_true q386
   have p389 : 0 ≤ (x19_1 : Int) := of_decide_eq_true (by first | (with_reducible assumption) | assumption)
   have q389 : x19_1 < (l3.length : Int) := of_decide_eq_true (by first | (with_reducible assumption) | assumption)
   obtain ⟨ad389, e389, hx389_0⟩ := Kd.at_int HR3.out x19_1 p389 q389
   have hw389_0 := hx389_0
   cases e389
   have hne389_0 := (show ((ad389.add (x19_1).toNat) : Addr).block ≠ g from by first | (rw [add_block]; exact hf3 ad389 rfl (by omega)) | (show (Addr.add _ _).block ≠ _; rw [add_block]; exact hf3 ad389 rfl (by omega)) | exact hf3 ad389 rfl (by omega))
   replace hx389_0 := keep_cell HK.out hx389_0 (by first | (rw [add_block]; exact hf3 _ rfl (by omega)) | exact hf3 _ rfl (by omega) | exact hf3 ad389 rfl (by omega))
   replace p389 := eq_true p389
   replace q389 := eq_true q389
   refine start_ (n := 17) (S := fun w' => w'.cell? (ad386.add (x19_1).toNat) = some (.int .u64 (rd l2 x19_1)) ∧ w'.cell? (ad389.add (x19_1).toNat) = some (.int .u64 (rd l3 x19_1))) (ds := []) #[false, false, false, false, false, false, false, false, false, false, false, false, false, false, false, false, false] (by kernel_rfl) rfl rfl ⟨(keep_cell HK.out hw386_0 hne386_0), (keep_cell HK.out hw389_0 hne389_0)⟩ (fun hHeld => ?_); refine with_tabW vec_Axpy.tab7 vec_Axpy.bits7 (fun HT_ HW_ => ?_)
   generalize wr.drew = w13 at HO_10 HI0 HK HB hx386_0 hx389_0 hHeld ⊢
   refine pure_ (i := 0) (N := some 22) (v := ?_) (a' := ?_) #[true, false, false, false, false, false, false, false, false, false, false, false, false, false, false, false, false] rfl rfl (any_of HT_.out (by kernel_rfl)) (fun _ _ _ h => h) (Or.inl ⟨by rfl, ?_⟩) ?_ ?_
   rotate_left
   ·
    intro w'
    go_simp
    with_reducible rfl
   rotate_left
   ·
    simp only [Act.put, sa0, sa1, sa2, i64_w, i32_w]
    rfl
   refine pure_ (i := 1) (N := some 23) (v := ?_) (a' := ?_) #[true, true, false, false, false, false, false, false, false, false, false, false, false, false, false, false, false] rfl rfl (any_of HT_.out (by kernel_rfl)) (fun _ _ _ h => h) (Or.inl ⟨by rfl, ?_⟩) ?_ ?_
   rotate_left
   ·
    intro w'
    go_simp
    with_reducible rfl
   rotate_left
   ·
    simp only [Act.put, sa0, sa1, sa2, i64_w, i32_w]
    rfl
   refine pure_ (i := 2) (N := some 24) (v := ?_) (a' := ?_) #[true, true, true, false, false, false, false, false, false, false, false, false, false, false, false, false, false] rfl rfl (any_of HT_.out (by kernel_rfl)) (fun _ _ _ h => h) (Or.inl ⟨by rfl, ?_⟩) ?_ ?_
   rotate_left
   ·
    intro w'
    go_simp
    with_reducible rfl
   rotate_left
   ·
    simp only [Act.put, sa0, sa1, sa2, i64_w, i32_w]
    rfl
   refine pure_ (i := 3) (N := some 25) (v := ?_) (a' := ?_) #[true, true, true, true, false, false, false, false, false, false, false, false, false, false, false, false, false] rfl rfl (any_of HT_.out (by kernel_rfl)) (fun _ _ _ h => h) (Or.inl ⟨by rfl, ?_⟩) ?_ ?_
   rotate_left
   ·
    intro w'
    go_simp
    with_reducible rfl
   rotate_left
   ·
    simp only [Act.put, sa0, sa1, sa2, i64_w, i32_w]
    rfl
   refine pure_ (i := 4) (N := some 26) (v := ?_) (a' := ?_) #[true, true, true, true, true, false, false, false, false, false, false, false, false, false, false, false, false] rfl rfl (any_of HT_.out (by kernel_rfl)) (fun _ _ _ h => h) (Or.inl ⟨by rfl, ?_⟩) ?_ ?_
   rotate_left
   ·
    intro w'
    go_simp
    with_reducible rfl
   rotate_left
   ·
    simp only [Act.put, sa0, sa1, sa2, i64_w, i32_w]
    rfl
   refine pure_ (i := 5) (N := some 27) (v := ?_) (a' := ?_) #[true, true, true, true, true, true, false, false, false, false, false, false, false, false, false, false, false] rfl rfl (any_of HT_.out (by kernel_rfl)) (fun _ _ _ h => h) (Or.inl ⟨by rfl, ?_⟩) ?_ ?_
   rotate_left
   ·
    intro w'
    go_simp
    with_reducible rfl
   rotate_left
   ·
    simp only [Act.put, sa0, sa1, sa2, i64_w, i32_w]
    rfl
   refine pure_ (i := 6) (N := some 28) (v := ?_) (a' := ?_) #[true, true, true, true, true, true, true, false, false, false, false, false, false, false, false, false, false] rfl rfl (any_of HT_.out (by kernel_rfl)) (fun _ _ _ h => h) (Or.inl ⟨by rfl, ?_⟩) ?_ ?_
   rotate_left
   ·
    intro w'
    go_simp
    with_reducible rfl
   rotate_left
   ·
    simp only [Act.put, sa0, sa1, sa2, i64_w, i32_w]
    rfl
   refine pure_ (i := 9) (N := some 31) (v := ?_) (a' := ?_) #[true, true, true, true, true, true, true, false, false, true, false, false, false, false, false, false, false] rfl rfl (any_of HT_.out (by kernel_rfl)) (fun _ _ _ h => h) (Or.inl ⟨by rfl, ?_⟩) ?_ ?_
   rotate_left
   ·
    intro w'
    go_simp
    with_reducible rfl
   rotate_left
   ·
    simp only [Act.put, sa0, sa1, sa2, i64_w, i32_w]
    rfl
   refine pure_ (i := 10) (N := some 32) (v := ?_) (a' := ?_) #[true, true, true, true, true, true, true, false, false, true, true, false, false, false, false, false, false] rfl rfl (any_of HT_.out (by kernel_rfl)) (fun _ _ _ h => h) (Or.inl ⟨by rfl, ?_⟩) ?_ ?_
   rotate_left
   ·
    intro w'
    go_simp
    with_reducible rfl
   rotate_left
   ·
    simp only [Act.put, sa0, sa1, sa2, i64_w, i32_w]
    rfl
   refine pure_ (i := 11) (N := some 33) (v := ?_) (a' := ?_) #[true, true, true, true, true, true, true, false, false, true, true, true, false, false, false, false, false] rfl rfl (any_of HT_.out (by kernel_rfl)) (fun _ _ _ h => h) (Or.inl ⟨by rfl, ?_⟩) ?_ ?_
   rotate_left
   ·
    intro w'
    go_simp
    with_reducible rfl
   rotate_left
   ·
    simp only [Act.put, sa0, sa1, sa2, i64_w, i32_w]
    rfl
   refine take_ (i := 7) (N := some 29) (v := ?_) (a' := ?_) #[true, true, true, true, true, true, true, true, false, true, true, true, false, false, false, false, false] rfl rfl (take_ofW HT_.out HW_.out (by kernel_rfl)) (fun _ _ _ h => h) (Or.inl ⟨by rfl, ?_⟩) hHeld ?_ ?_
   rotate_left
   ·
    rintro w' ⟨s0, s1⟩
    go_simp
    with_reducible rfl
   rotate_left
   ·
    simp only [Act.put, sa0, sa1, sa2, i64_w, i32_w]
    rfl
   refine take_ (i := 12) (N := some 34) (v := ?_) (a' := ?_) #[true, true, true, true, true, true, true, true, false, true, true, true, true, false, false, false, false] rfl rfl (take_ofW HT_.out HW_.out (by kernel_rfl)) (fun _ _ _ h => h) (Or.inl ⟨by rfl, ?_⟩) hHeld ?_ ?_
   rotate_left
   ·
    rintro w' ⟨s0, s1⟩
    go_simp
    with_reducible rfl
   rotate_left
   ·
    simp only [Act.put, sa0, sa1, sa2, i64_w, i32_w]
    rfl
   refine one_ (i := 8) (N := some 30) #[true, true, true, true, true, true, true, true, true, true, true, true, true, false, false, false, false] rfl rfl (one_of HT_.out (by kernel_rfl)) (by decide) (fun K hK => ?_)
   refine goes_ Try.func12 (by kernel_rfl) rfl #[.pointer (some ⟨g, 0, none⟩), .int .u64 a1, .int .u64 (rd l2 x19_1)] (by rfl) rfl rfl ga ?_
   with_reducible refine (soft_Calc_Mul.calls k1 g x1000_1 a1 (rd l2 x19_1) t387 t388 w0 _ ?side1 ?side2 A9.out).mono ?_
   (case side1 => repeat (first | (with_reducible first | exact HI0.out | apply IsS27.alloc | apply IsS27.drewN | apply IsS27.drew | apply IsS27.set_0) | exact HI0.out))
   (case side2 => repeat (first | (with_reducible first | exact HB.out | apply below_alloc | apply pw_below_drewN | apply below_drew1 | refine below_set ?_ (IsS27.ge HI0.out)) | exact HB.out))
   rintro e w14 ⟨rfl, hi, hb, hk⟩
   refine ⟨_, rfl, ?_⟩
   refine ax4 (Kd.R_mono (Kd.R_keep (IsS27.apart (show IsS27 w0 _ g x1000_1 from by repeat (first | (with_reducible first | exact HI0.out | apply IsS27.alloc | apply IsS27.drewN | apply IsS27.drew | apply IsS27.set_0) | exact HI0.out)) (kr HO_10) (by decide)) hk (fun _ h => h.2)) (fun _ h => h.1)) (KeepBut.trans (by repeat (first | (with_reducible first | exact HK.out | apply KeepBut.set_ | apply keep_drewN | apply keep_drew | apply keep_alloc) | exact HK.out)) hk (.inl rfl)) hb hi ?_
   clear HO_10 HK HB HI0
   intro HO_10 HK HB HI0
   (try clear hb)
   (try clear hb2)
   (try clear hk)
   (try clear hi)
   refine hK.out _ _ ⟨(keep_cell HK.out hw386_0 hne386_0), (keep_cell HK.out hw389_0 hne389_0)⟩ (fun hHeld => ?_)
   clear hK K
   refine norm_ (a' := ?_) ?_ ?_
   rotate_left
   ·
    show Act.put _ (some 30) _ = _
    simp only [Act.put, sa0, sa1, sa2, i64_w, i32_w]
    rfl
   refine one_ (i := 13) (N := some 35) #[true, true, true, true, true, true, true, true, true, true, true, true, true, true, false, false, false] rfl rfl (one_of HT_.out (by kernel_rfl)) (by decide) (fun K hK => ?_)
   refine goes_ Try.func11 (by kernel_rfl) rfl #[.pointer (some ⟨g, 0, none⟩), .int .u64 t387, .int .u64 (rd l3 x19_1)] (by rfl) rfl rfl ga ?_
   with_reducible refine (soft_Calc_Add.calls k1 g t388 t387 (rd l3 x19_1) t390 t391 w0 _ ?side1 ?side2 A11.out).mono ?_
   (case side1 => repeat (first | (with_reducible first | exact HI0.out | apply IsS27.alloc | apply IsS27.drewN | apply IsS27.drew | apply IsS27.set_0) | exact HI0.out))
   (case side2 => repeat (first | (with_reducible first | exact HB.out | apply below_alloc | apply pw_below_drewN | apply below_drew1 | refine below_set ?_ (IsS27.ge HI0.out)) | exact HB.out))
   rintro e w15 ⟨rfl, hi, hb, hk⟩
   refine ⟨_, rfl, ?_⟩
   refine ax4 (Kd.R_mono (Kd.R_keep (IsS27.apart (show IsS27 w0 _ g t388 from by repeat (first | (with_reducible first | exact HI0.out | apply IsS27.alloc | apply IsS27.drewN | apply IsS27.drew | apply IsS27.set_0) | exact HI0.out)) (kr HO_10) (by decide)) hk (fun _ h => h.2)) (fun _ h => h.1)) (KeepBut.trans (by repeat (first | (with_reducible first | exact HK.out | apply KeepBut.set_ | apply keep_drewN | apply keep_drew | apply keep_alloc) | exact HK.out)) hk (.inl rfl)) hb hi ?_
   clear HO_10 HK HB HI0
   intro HO_10 HK HB HI0
   (try clear hb)
   (try clear hb2)
   (try clear hk)
   (try clear hi)
   refine hK.out _ _ ⟨(keep_cell HK.out hw386_0 hne386_0), (keep_cell HK.out hw389_0 hne389_0)⟩ (fun hHeld => ?_)
   clear hK K
   refine norm_ (a' := ?_) ?_ ?_
   rotate_left
   ·
    show Act.put _ (some 35) _ = _
    simp only [Act.put, sa0, sa1, sa2, i64_w, i32_w]
    rfl
   refine one_ (i := 14) (N := some 36) #[true, true, true, true, true, true, true, true, true, true, true, true, true, true, true, false, false] rfl rfl (one_of HT_.out (by kernel_rfl)) (by decide) (fun K hK => ?_)
   refine value_ (w1 := ?_) (v := ?_) (by rfl) rfl ?_ ?_
   rotate_left 2
   ·
    go_simp
    constructor
    ·
     rfl
    ·
     rfl
   refine hK.out _ _ ⟨(World.cell?_alloc_lt _ _ _ (World.block_lt_of_cell? _ _ ((keep_cell HK.out hw386_0 hne386_0)))).trans ((keep_cell HK.out hw386_0 hne386_0)), (World.cell?_alloc_lt _ _ _ (World.block_lt_of_cell? _ _ ((keep_cell HK.out hw389_0 hne389_0)))).trans ((keep_cell HK.out hw389_0 hne389_0))⟩ (fun hHeld => ?_)
   clear hK K
   refine norm_ (a' := ?_) ?_ ?_
   rotate_left
   ·
    show Act.put _ (some 36) _ = _
    simp only [Act.put, sa0, sa1, sa2, i64_w, i32_w]
    rfl
   refine one_ (i := 15) (N := some 37) #[true, true, true, true, true, true, true, true, true, true, true, true, true, true, true, true, false] rfl rfl (one_of HT_.out (by kernel_rfl)) (by decide) (fun K hK => ?_)
   refine Kd.R_append_step (Kd.int .u64) w.heap.size (by rfl) (.tmp 22) (.tmp 36) 22 28 (.int .u64 0) 8 rfl Try.underlying22 info28 rfl (by decide) (by omega) u10 x10_1 t390 [.int .u64 t390] (fun _ => True) (fun _ => False) rfl rfl ?aP (fun _ hk => hk.elim) ?aF ?aO (Below.refl _ _) ?aS ?aL ?_
   (case aP => exact rfl)
   (case aF => exact (fun _ _ => trivial))
   (case aO => exact (kr HO_10))
   (case aS => exact (keep_size (w := w) (g := g) (row := none) (by repeat (first | (with_reducible first | exact HK.out | apply KeepBut.set_ | apply keep_drewN | apply keep_drew | apply keep_alloc) | exact HK.out))))
   (case aL => have := LMc12.out; omega)
   intro v393 w16 ho hb hg hat
   rw [← Ny392.out] at ho
   refine ax4 (IsS27.grown (by repeat (first | (with_reducible first | exact HI0.out | apply IsS27.alloc | apply IsS27.drewN | apply IsS27.drew | apply IsS27.set_0) | exact HI0.out)) hg (IsS27.own_ne HI0.out HO_10.out (by decide))) (below_weaken (by repeat (first | (with_reducible first | exact HB.out | apply below_alloc | apply pw_below_drewN | apply below_drew1 | refine below_set ?_ (IsS27.ge HI0.out)) | exact HB.out)) HL.out hb) (KeepBut.trans (by repeat (first | (with_reducible first | exact HK.out | apply KeepBut.set_ | apply keep_drewN | apply keep_drew | apply keep_alloc) | exact HK.out)) (KeepBut.of_grown hg g) (Kd.R_base2 HO_10.out)) ho ?_
   clear HI0 HB HK HO_10
   intro HI0 HB HK HO394
   clear ho hb hg hat
   refine hK.out _ _ ⟨(keep_cell HK.out hw386_0 hne386_0), (keep_cell HK.out hw389_0 hne389_0)⟩ (fun hHeld => ?_)
   clear hK K
   refine norm_ (a' := ?_) ?_ ?_
   rotate_left
   ·
    show Act.put _ (some 37) _ = _
    simp only [Act.put, sa0, sa1, sa2, i64_w, i32_w]
    rfl
   refine pure_ (i := 16) (N := some 10) (v := ?_) (a' := ?_) #[true, true, true, true, true, true, true, true, true, true, true, true, true, true, true, true, true] rfl rfl (any_of HT_.out (by kernel_rfl)) (fun _ _ _ h => h) (Or.inl ⟨by rfl, ?_⟩) ?_ ?_
   rotate_left
   ·
    intro w'
    go_simp
    with_reducible rfl
   rotate_left
   ·
    simp only [Act.put, sa0, sa1, sa2, i64_w, i32_w]
    rfl
   refine done_ (done_of HT_.out (by kernel_rfl)) ?_
   try go_wp2
   go_roundg k1
   case measure => have := HK1.out; omega
   case rel => exact ⟨(y392), (wrap64 (x19_1 + 1)), (t391), (by first | rfl | (simp; done) | (simp [*]; done)), H', ⟨by have := HK1.out; omega⟩, ⟨kr HO394⟩, ⟨by repeat (first | (with_reducible first | exact HI0.out | apply IsS27.alloc | apply IsS27.drewN | apply IsS27.drew | apply IsS27.set_0) | exact HI0.out)⟩, ⟨by repeat (first | (with_reducible first | exact HK.out | apply KeepBut.set_ | apply keep_drewN | apply keep_drew | apply keep_alloc) | exact HK.out)⟩, ⟨by repeat (first | (with_reducible first | exact HB.out | apply below_alloc | apply pw_below_drewN | apply below_drew1 | refine below_set ?_ (IsS27.ge HI0.out)) | exact HB.out)⟩⟩
/-! ### word_Flip: function 48 -/
def word_Flip.f (a0 : Int) : Option (Int) := some (Go.bits .xor .u64 a0 9223372036854775808)
set_option maxHeartbeats 8000000 in
set_option maxRecDepth 100000 in
theorem word_Flip.calls (a0 : Int) (r : Int) (w : World) (h : word_Flip.f a0 = some r) :
  Calls Try.prog 48 #[.int .u64 a0] w fun e w' => e = .returned (.int .u64 r) ∧ Drawn0 w w' := by
 have H : (some (Go.bits .xor .u64 a0 9223372036854775808)) = some r := h
 clear h
 obtain rfl := Option.some.inj H
 go_enter Try.func48, Try.ntmps48
 go_wp2
 go_ret
 exact ⟨by first | rfl | (simp; done) | (simp [*]; done), by repeat (first | exact Drawn0.refl _ | apply Drawn0.step)⟩

/-! ### soft_Sub: function 36 -/
def soft_Sub.f (k : Nat) (a0 : Int) (a1 : Int) : Option (Int × Int) := (word_Flip.f a1).bind fun t402 => ((soft_Add.f k a0 t402).bind fun bt403 => (some (bt403.1, bt403.2)))
theorem soft_Sub.mono : ∀ a0 a1 k, LeO (soft_Sub.f k a0 a1) (soft_Sub.f (k + 1) a0 a1) := by
 intro a0 a1 k
 unfold soft_Sub.f
 repeat' with_reducible first | apply soft_Add.mono | exact LeO.refl _ | exact LeO.none _ | refine LeO.ite ?_ ?_ | refine LeO.bind ?_ (fun _ => ?_)
set_option maxHeartbeats 8000000 in
set_option maxRecDepth 100000 in
theorem soft_Sub.calls (k : Nat) (a0 : Int) (a1 : Int) (r1 : Int) (r2 : Int) (w : World) (h : soft_Sub.f k a0 a1 = some (r1, r2)) :
  Calls Try.prog 36 #[.int .u64 a0, .int .u64 a1] w fun e w' => e = .returned (.tuple #[.int .u64 r1, .int .u8 r2]) ∧ Below w.heap.size w w' := by
 have HB := Aside0.mk (Below.refl w.heap.size w)
 have H : ((word_Flip.f a1).bind fun t402 => ((soft_Add.f k a0 t402).bind fun bt403 => (some (bt403.1, bt403.2)))) = some (r1, r2) := h
 clear h
 obtain ⟨t402, A30, H⟩ := Option.bind_eq_some_iff.mp H
 (try dsimp -simprocs only at H)
 have A3 := Aside0.mk A30
 clear A30
 obtain ⟨⟨t403, t404⟩, A40, H⟩ := Option.bind_eq_some_iff.mp H
 (try dsimp -simprocs only at H)
 have A4 := Aside0.mk A40
 clear A40
 simp only [Option.some.injEq, Prod.mk.injEq] at H
 obtain ⟨rfl, rfl⟩ := H
 go_enter Try.func36, Try.ntmps36
 go_wp2_with (first | ((with_reducible refine gate_callee (f := 48) rfl ?_); refine goesL_ (some 8) rfl rfl Try.func48 (by kernel_rfl) rfl #[.int .u64 a1] rfl ga ?_; (with_reducible refine (word_Flip.calls a1 t402 _ A3.out).mono ?_); rintro e w' ⟨rfl, ⟨nd, rfl⟩⟩; refine ⟨_, rfl, ?_⟩) | ((with_reducible refine gate_callee (f := 30) rfl ?_); refine goesL_ (some 9) rfl rfl Try.func30 (by kernel_rfl) rfl #[.int .u64 a0, .int .u64 t402] rfl ga ?_; (with_reducible refine (soft_Add.calls k a0 t402 t403 t404 _ A4.out).mono ?_); rintro e w5 ⟨rfl, hb⟩; refine ⟨_, rfl, ?_⟩; refine ax1 (below_step bel hb) ?_; clear HB; intro HB; (try clear hb)))
 go_ret2
 exact ⟨er, bel⟩

/-! ### soft_Calc_Sub: function 18 -/
def soft_Calc_Sub.f (k : Nat) (s0_0 : Int) (a1 : Int) (a2 : Int) : Option (Int × Int) := (soft_Sub.f k a1 a2).bind fun bt405 => ((soft_Calc_note.f s0_0 bt405.1 bt405.2).bind fun bt407 => (some (bt407.1, bt407.2)))
theorem soft_Calc_Sub.mono : ∀ a0 a1 a2 k, LeO (soft_Calc_Sub.f k a0 a1 a2) (soft_Calc_Sub.f (k + 1) a0 a1 a2) := by
 intro a0 a1 a2 k
 unfold soft_Calc_Sub.f
 repeat' with_reducible first | apply soft_Sub.mono | exact LeO.refl _ | exact LeO.none _ | refine LeO.ite ?_ ?_ | refine LeO.bind ?_ (fun _ => ?_)
set_option maxHeartbeats 8000000 in
set_option maxRecDepth 100000 in
theorem soft_Calc_Sub.calls (k : Nat) (g : Nat) (s0_0 : Int) (a1 : Int) (a2 : Int) (r1 : Int) (r2 : Int) (w0 w : World) (hI : IsS27 w0 w g s0_0) (hB : Below w0.heap.size w0 w) (h : soft_Calc_Sub.f k s0_0 a1 a2 = some (r1, r2)) :
  Calls Try.prog 18 #[.pointer (some ⟨g, 0, none⟩), .int .u64 a1, .int .u64 a2] w fun e w' => e = .returned (.int .u64 r1) ∧ IsS27 w0 w' g r2 ∧ Below w0.heap.size w0 w' ∧ KeepBut w w' g none := by
 have HI0 := Aside0.mk hI
 have HK := Aside0.mk (KeepBut.refl w g none)
 have HL := Aside0.mk hB.size
 clear hI
 have HW0 := Aside0.mk hB.size
 have HB := Aside0.mk hB
 clear hB
 have H : ((soft_Sub.f k a1 a2).bind fun bt405 => ((soft_Calc_note.f s0_0 bt405.1 bt405.2).bind fun bt407 => (some (bt407.1, bt407.2)))) = some (r1, r2) := h
 clear h
 obtain ⟨⟨t405, t406⟩, A40, H⟩ := Option.bind_eq_some_iff.mp H
 (try dsimp -simprocs only at H)
 have A4 := Aside0.mk A40
 clear A40
 obtain ⟨⟨t407, t408⟩, A50, H⟩ := Option.bind_eq_some_iff.mp H
 (try dsimp -simprocs only at H)
 have A5 := Aside0.mk A50
 clear A50
 simp only [Option.some.injEq, Prod.mk.injEq] at H
 obtain ⟨rfl, rfl⟩ := H
 go_enter Try.func18, Try.ntmps18
 go_wp2_with (first | ((with_reducible refine gate_callee (f := 36) rfl ?_); refine goesL_ (some 10) rfl rfl Try.func36 (by kernel_rfl) rfl #[.int .u64 a1, .int .u64 a2] rfl ga ?_; (with_reducible refine (soft_Sub.calls k a1 a2 t405 t406 _ A4.out).mono ?_); rintro e w6 ⟨rfl, hb⟩; refine ⟨_, rfl, ?_⟩; refine ax3 (IsS27.below (by repeat (first | (with_reducible first | exact HI0.out | apply IsS27.alloc | apply IsS27.drewN | apply IsS27.drew | apply IsS27.set_0) | exact HI0.out)) hb) (KeepBut.trans (by repeat (first | (with_reducible first | exact HK.out | apply KeepBut.set_ | apply keep_drewN | apply keep_drew | apply keep_alloc) | exact HK.out)) (KeepBut.of_below hb g none) (.inl rfl)) (below_step (by repeat (first | (with_reducible first | exact HB.out | apply below_alloc | apply pw_below_drewN | apply below_drew1 | refine below_set ?_ (IsS27.ge HI0.out)) | exact HB.out)) hb) ?_; clear HI0; clear HK; clear HB; intro HI0 HK HB; (try clear hb)) | ((with_reducible refine gate_callee (f := 29) rfl ?_); refine goesL_ (some 13) rfl rfl Try.func29 (by kernel_rfl) rfl #[.pointer (some ⟨g, 0, none⟩), .int .u64 t405, .int .u8 t406] rfl ga ?_; (with_reducible refine (soft_Calc_note.calls g s0_0 t405 t406 t407 t408 w0 _ ?side1 ?side2 A5.out).mono ?_); (case side1 => repeat (first | (with_reducible first | exact HI0.out | apply IsS27.alloc | apply IsS27.drewN | apply IsS27.drew | apply IsS27.set_0) | exact HI0.out)); (case side2 => repeat (first | (with_reducible first | exact HB.out | apply below_alloc | apply pw_below_drewN | apply below_drew1 | refine below_set ?_ (IsS27.ge HI0.out)) | exact HB.out)); rintro e w7 ⟨rfl, hi, hb, hk⟩; refine ⟨_, rfl, ?_⟩; refine ax3 (KeepBut.trans (by repeat (first | (with_reducible first | exact HK.out | apply KeepBut.set_ | apply keep_drewN | apply keep_drew | apply keep_alloc) | exact HK.out)) hk (.inl rfl)) hb hi ?_; clear HK; clear HB; clear HI0; intro HK HB HI0; (try clear hb)))
 go_ret
 exact ⟨er, by repeat (first | (with_reducible first | exact HI0.out | apply IsS27.alloc | apply IsS27.drewN | apply IsS27.drew | apply IsS27.set_0) | exact HI0.out), by repeat (first | (with_reducible first | exact HB.out | apply below_alloc | apply pw_below_drewN | apply below_drew1 | refine below_set ?_ (IsS27.ge HI0.out)) | exact HB.out), by repeat (first | (with_reducible first | exact HK.out | apply KeepBut.set_ | apply keep_drewN | apply keep_drew | apply keep_alloc) | exact HK.out)⟩

end Go.Proofs.Ytkkfghecmhmdpaa.F
