-- Written by a program of this seat's session (mkprint), out of the translation.
import Derived.Test.YtenegelkbfmjkaaDoorShort
import Derived.Test.YtenegelkbfmjkaaDoorFx0
import Derived.Test.YtenegelkbfmjkaaDoorFx2
import Derived.Test.YtenegelkbfmjkaaDoorFx4
namespace Go.Proofs.YtenegelkbfmjkaaDoor.F
open Go.RowKit Go.Proofs.YtenegelkbfmjkaaDoorW.PrintWords Go.Proofs.YtenegelkbfmjkaaDoorW.PrintLast Go.Proofs.YtenegelkbfmjkaaDoorW.PrintMore
attribute [local go_sem] max2_int min2_int max_two min_two max_three min_three max_four min_four   -- for this text's walks alone
set_option linter.unusedVariables false
set_option linter.unusedSimpArgs false

/-! ### more_Scale: function 17 -/
def more_Scale.j0 : Nat → Int → Int → Bool → Option (Int × Int)
 | 0, _, _, _ => none
 | k + 1, x0, x1, x14 => if x14 = true then (some (x0, 0)) else ((word_Parts.f k x0).bind fun bt178 => ((word_Neg.f x0).bind fun t180 => ((round_Round.f k t180 0 bt178.1 (wrap64 (bt178.2 + (mx (-10000) (mn x1 10000)))) false).bind fun bt181 => (some (bt181.1, bt181.2)))))
def more_Scale.f (k : Nat) (a0 : Int) (a1 : Int) : Option (Int × Int) := (word_Kind.f k a0).bind fun t176 => (if t176 = 5 then ((word_Signals.f k a0).bind fun t177 => (if t177 = true then (some (9221120237041090560, 16)) else (some (9221120237041090560, 0)))) else (if t176 = 4 then (more_Scale.j0 k a0 a1 (t176 == 4)) else (more_Scale.j0 k a0 a1 (t176 == 1))))
theorem more_Scale.mono_l : ∀ k, (∀ y0 y1 y2, LeO (more_Scale.j0 k y0 y1 y2) (more_Scale.j0 (k + 1) y0 y1 y2))
 | 0 => fun _ _ _ r h => by simp [more_Scale.j0] at h
 | k + 1 => by
  have ih0 := more_Scale.mono_l k
  ·
   intro y0 y1 y2
   unfold more_Scale.j0
   repeat' with_reducible first | apply ih0 | apply round_Round.mono | apply word_Kind.mono | apply word_Parts.mono | apply word_Signals.mono | exact LeO.refl _ | exact LeO.none _ | refine LeO.ite ?_ ?_ | refine LeO.bind ?_ (fun _ => ?_)
theorem more_Scale.mono : ∀ a0 a1 k, LeO (more_Scale.f k a0 a1) (more_Scale.f (k + 1) a0 a1) := by
 intro a0 a1 k
 have ih0 := more_Scale.mono_l k
 unfold more_Scale.f
 repeat' with_reducible first | apply ih0 | apply round_Round.mono | apply word_Kind.mono | apply word_Parts.mono | apply word_Signals.mono | exact LeO.refl _ | exact LeO.none _ | refine LeO.ite ?_ ?_ | refine LeO.bind ?_ (fun _ => ?_)
set_option maxHeartbeats 8000000 in
set_option maxRecDepth 100000 in
theorem more_Scale.calls (k : Nat) (a0 : Int) (a1 : Int) (r1 : Int) (r2 : Int) (w : World) (h : more_Scale.f k a0 a1 = some (r1, r2)) :
  Calls Tryd.prog 17 #[.int .u64 a0, .int .i64 a1] w fun e w' => e = .returned (.tuple #[.int .u64 r1, .int .u8 r2]) ∧ Below w.heap.size w w' := by
 have hu69 := Tryd.underlying69
 have HB := Aside0.mk (Below.refl w.heap.size w)
 have H : ((word_Kind.f k a0).bind fun t176 => (if t176 = 5 then ((word_Signals.f k a0).bind fun t177 => (if t177 = true then (some (9221120237041090560, 16)) else (some (9221120237041090560, 0)))) else (if t176 = 4 then (more_Scale.j0 k a0 a1 (t176 == 4)) else (more_Scale.j0 k a0 a1 (t176 == 1))))) = some (r1, r2) := h
 clear h
 obtain ⟨t176, A30, H⟩ := Option.bind_eq_some_iff.mp H
 (try dsimp -simprocs only at H)
 have A3 := Aside0.mk A30
 clear A30
 by_cases c4 : t176 = 5
 ·
  rw [if_pos c4] at H
  have c4b0 : (t176 == 5) = true := beq_iff_eq.mpr c4
  have c4b1 : (t176 != 5) = false := bne_eq_false_iff_eq.mpr c4
  clear c4
  obtain ⟨t177, A50, H⟩ := Option.bind_eq_some_iff.mp H
  (try dsimp -simprocs only at H)
  have A5 := Aside0.mk A50
  clear A50
  by_cases c6 : t177 = true
  ·
   subst c6
   rw [if_pos rfl] at H
   simp only [Option.some.injEq, Prod.mk.injEq] at H
   obtain ⟨rfl, rfl⟩ := H
   go_enter Tryd.func17, Tryd.ntmps17
   go_wp2_with (first | ((with_reducible refine gate_callee (f := 37) rfl ?_); refine goesL_ (some 9) rfl rfl Tryd.func37 (by kernel_rfl) rfl #[.int .u64 a0] rfl ga ?_; (with_reducible refine (word_Kind.calls k a0 t176 _ A3.out).mono ?_); rintro e w' ⟨rfl, ⟨nd, rfl⟩⟩; refine ⟨_, rfl, ?_⟩) | ((with_reducible refine gate_callee (f := 38) rfl ?_); refine goesL_ (some 13) rfl rfl Tryd.func38 (by kernel_rfl) rfl #[.int .u64 a0] rfl ga ?_; (with_reducible refine (word_Signals.calls k a0 true _ A5.out).mono ?_); rintro e w' ⟨rfl, ⟨nd, rfl⟩⟩; refine ⟨_, rfl, ?_⟩))
   go_ret2
   exact ⟨er, bel⟩
  ·
   replace c6 := Bool.eq_false_iff.mpr c6
   subst c6
   rw [if_neg (show ¬ (false = true) by decide)] at H
   simp only [Option.some.injEq, Prod.mk.injEq] at H
   obtain ⟨rfl, rfl⟩ := H
   go_enter Tryd.func17, Tryd.ntmps17
   go_wp2_with (first | ((with_reducible refine gate_callee (f := 37) rfl ?_); refine goesL_ (some 9) rfl rfl Tryd.func37 (by kernel_rfl) rfl #[.int .u64 a0] rfl ga ?_; (with_reducible refine (word_Kind.calls k a0 t176 _ A3.out).mono ?_); rintro e w' ⟨rfl, ⟨nd, rfl⟩⟩; refine ⟨_, rfl, ?_⟩) | ((with_reducible refine gate_callee (f := 38) rfl ?_); refine goesL_ (some 13) rfl rfl Tryd.func38 (by kernel_rfl) rfl #[.int .u64 a0] rfl ga ?_; (with_reducible refine (word_Signals.calls k a0 false _ A5.out).mono ?_); rintro e w' ⟨rfl, ⟨nd, rfl⟩⟩; refine ⟨_, rfl, ?_⟩))
   go_ret2
   exact ⟨er, bel⟩
 ·
  rw [if_neg c4] at H
  have c4b0 : (t176 == 5) = false := beq_eq_false_iff_ne.mpr c4
  have c4b1 : (t176 != 5) = true := bne_iff_ne.mpr c4
  have HC7 := Aside0.mk H
  clear H
  go_enter Tryd.func17, Tryd.ntmps17
  go_upto_if 14 with (first | ((with_reducible refine gate_callee (f := 37) rfl ?_); refine goesL_ (some 9) rfl rfl Tryd.func37 (by kernel_rfl) rfl #[.int .u64 a0] rfl ga ?_; (with_reducible refine (word_Kind.calls k a0 t176 _ A3.out).mono ?_); rintro e w' ⟨rfl, ⟨nd, rfl⟩⟩; refine ⟨_, rfl, ?_⟩))
  (try simp only [Act.put, sa0, sa1, sa2])
  go_cut [14] (fun v14 wc => ∃ (kq : Nat) (x14_6 : Bool), v14 = .bool x14_6 ∧ Aside0 (more_Scale.j0 kq a0 a1 x14_6 = some (r1, r2)) ∧ Aside0 (kq ≤ k) ∧ Aside0 (Below w.heap.size w wc))
  case first =>
   have H := HC7.out
   clear HC7
   by_cases c8 : t176 = 4
   rotate_left
   ·
    rw [if_neg c8] at H
    have c8b0 : (t176 == 4) = false := beq_eq_false_iff_ne.mpr c8
    have c8b1 : (t176 != 4) = true := bne_iff_ne.mpr c8
    (first | rw [c8b0] | (simp only [i64_w, i32_w]; rw [c8b0]) | skip)
    have H' := Aside0.mk H
    clear H
    go_wp2
    go_meet
    case rel => exact ⟨_, ((t176 == 1)), (by first | rfl | (simp; done) | (simp [*]; done)), H', ⟨by first | omega | exact Nat.le_refl _⟩, ⟨bel⟩⟩
   rw [if_pos c8] at H
   have c8b0 : (t176 == 4) = true := beq_iff_eq.mpr c8
   have c8b1 : (t176 != 4) = false := bne_eq_false_iff_eq.mpr c8
   clear c8
   (first | rw [c8b0] | (simp only [i64_w, i32_w]; rw [c8b0]) | skip)
   have H' := Aside0.mk H
   clear H
   go_wp2
   go_meet
   case rel => exact ⟨_, ((t176 == 4)), (by first | rfl | (simp; done) | (simp [*]; done)), H', ⟨by first | omega | exact Nat.le_refl _⟩, ⟨bel⟩⟩
  case rest =>
   clear HC7
   try clear c1
   try clear p2
   try clear c3
   try clear c4
   try clear c4b0
   try clear c4b1
   try clear c6
   try clear c8
   try clear c8b0
   try clear c8b1
   obtain ⟨kq, x14_6, rfl, HA, HJ6, HB⟩ := hcut
   cases kq with
   | zero => exact absurd HA.out (by simp [more_Scale.j0])
   | succ kj6 =>
    have H := HA.out
    clear HA
    simp only [more_Scale.j0] at H
    by_cases c9 : x14_6 = true
    ·
     subst c9
     rw [if_pos rfl] at H
     simp only [Option.some.injEq, Prod.mk.injEq] at H
     obtain ⟨rfl, rfl⟩ := H
     go_wp2
     go_ret2
     exact ⟨er, bel⟩
    ·
     replace c9 := Bool.eq_false_iff.mpr c9
     subst c9
     rw [if_neg (show ¬ (false = true) by decide)] at H
     obtain ⟨⟨t178, t179⟩, A100, H⟩ := Option.bind_eq_some_iff.mp H
     (try dsimp -simprocs only at H)
     have A10 := Aside0.mk A100
     clear A100
     obtain ⟨t180, A110, H⟩ := Option.bind_eq_some_iff.mp H
     (try dsimp -simprocs only at H)
     have A11 := Aside0.mk A110
     clear A110
     obtain ⟨ji12, hji12⟩ : ∃ j_ : Int, (mn a1 10000) = j_ := ⟨_, rfl⟩
     replace H : ((round_Round.f kj6 t180 0 t178 (wrap64 (t179 + (mx (-10000) (ji12)))) false).bind fun bt181 => (some (bt181.1, bt181.2))) = some (r1, r2) := by first | (rw [hji12] at H; exact H) | (simp only [hji12] at H ⊢; exact H)
     (try rw [hji12] at A10)
     (try rw [hji12] at A11)
     have hji12_ : (if 10000 < a1 then 10000 else a1) = ji12 := hji12
     obtain ⟨ji13, hji13⟩ : ∃ j_ : Int, (mx (-10000) (ji12)) = j_ := ⟨_, rfl⟩
     replace H : ((round_Round.f kj6 t180 0 t178 (wrap64 (t179 + (ji13))) false).bind fun bt181 => (some (bt181.1, bt181.2))) = some (r1, r2) := by first | (rw [hji13] at H; exact H) | (simp only [hji13] at H ⊢; exact H)
     (try rw [hji13] at A10)
     (try rw [hji13] at A11)
     have hji13_ : (if (-10000) < (ji12) then (ji12) else (-10000)) = ji13 := hji13
     obtain ⟨⟨t181, t182⟩, A140, H⟩ := Option.bind_eq_some_iff.mp H
     (try dsimp -simprocs only at H)
     have A14 := Aside0.mk A140
     clear A140
     simp only [Option.some.injEq, Prod.mk.injEq] at H
     obtain ⟨rfl, rfl⟩ := H
     go_wp2_with (first | ((with_reducible refine gate_callee (f := 26) rfl ?_); refine goesL_ (some 20) rfl rfl Tryd.func26 (by kernel_rfl) rfl #[.int .u64 a0] rfl ga ?_; (with_reducible refine (word_Parts.calls kj6 a0 t178 t179 _ A10.out).mono ?_); rintro e w' ⟨rfl, ⟨nd, rfl⟩⟩; refine ⟨_, rfl, ?_⟩) | ((with_reducible refine gate_callee (f := 28) rfl ?_); refine goesL_ (some 24) rfl rfl Tryd.func28 (by kernel_rfl) rfl #[.int .u64 a0] rfl ga ?_; (with_reducible refine (word_Neg.calls a0 t180 _ A11.out).mono ?_); rintro e w' ⟨rfl, ⟨nd, rfl⟩⟩; refine ⟨_, rfl, ?_⟩) | ((with_reducible refine gate_callee (f := 39) rfl ?_); refine goesL_ (some 32) rfl rfl Tryd.func39 (by kernel_rfl) rfl #[.bool t180, .agg #[.int .u64 0, .int .u64 t178], .int .i64 (wrap64 (t179 + (ji13))), .bool false] rfl (by (try simp only [List.map_toArray, List.map_cons, List.map_nil]); first | done | (simp only [hji13]; rfl) | rfl | (simp only [List.length_drop, List.length_take]; rfl)) ?_; (with_reducible refine (round_Round.calls kj6 t180 0 t178 (wrap64 (t179 + (ji13))) false t181 t182 _ A14.out).mono ?_); rintro e w15 ⟨rfl, hb⟩; refine ⟨_, rfl, ?_⟩; refine ax1 (below_step bel hb) ?_; clear HB; intro HB; (try clear hb)))
     go_ret2
     exact ⟨by first | rfl | (simp [errW_none, errW_some] <;> rfl) | (simp only [← hji12, ← hji13]; first | rfl | (simp [errW_none, errW_some] <;> rfl)) | (simp [*, errW_none, errW_some] <;> rfl), bel⟩

/-! ### mat_Matrix_Scale: function 35 -/
def mat_Matrix_Scale.l0 : Nat → Int → Int → List Int → Int → Int → Int → Int → Int → Option (Int × Int × Int × List Int × Int)
 | 0, _, _, _, _, _, _, _, _ => none
 | k + 1, x1, x7, x15, x16, x17, x192000, x192001, x192002 => if x17 < x16 then (if 0 ≤ x17 then (if x17 < (x15.length : Int) then ((more_Scale.f k (rd x15 x17) x1).bind fun bt193 => (mat_Matrix_Scale.l0 k x1 (Go.bits .or .u8 x7 bt193.2) (x15.set (x17 : Int).toNat bt193.1) x16 (wrap64 (x17 + 1)) x192000 x192001 x192002)) else (none)) else (none)) else (some (x192000, x192001, x192002, x15, x7))
def mat_Matrix_Scale.f (k : Nat) (a0_0 : Int) (a0_1 : Int) (a0_2 : Int) (l0_3 : List Int) (a1 : Int) : Option (Int × Int × Int × List Int × Int) := (mat_Matrix_Clone.f k a0_0 a0_1 a0_2 l0_3).bind fun bt185 => (mat_Matrix_Scale.l0 k a1 0 bt185.2.2.2 (bt185.2.2.2.length : Int) 0 bt185.1 bt185.2.1 bt185.2.2.1)
theorem mat_Matrix_Scale.mono_l : ∀ k, (∀ y0 y1 y2 y3 y4 y5 y6 y7, LeO (mat_Matrix_Scale.l0 k y0 y1 y2 y3 y4 y5 y6 y7) (mat_Matrix_Scale.l0 (k + 1) y0 y1 y2 y3 y4 y5 y6 y7))
 | 0 => fun _ _ _ _ _ _ _ _ r h => by simp [mat_Matrix_Scale.l0] at h
 | k + 1 => by
  have ih0 := mat_Matrix_Scale.mono_l k
  ·
   intro y0 y1 y2 y3 y4 y5 y6 y7
   unfold mat_Matrix_Scale.l0
   repeat' with_reducible first | apply ih0 | apply mat_Matrix_Clone.mono | apply more_Scale.mono | exact LeO.refl _ | exact LeO.none _ | refine LeO.ite ?_ ?_ | refine LeO.bind ?_ (fun _ => ?_)
theorem mat_Matrix_Scale.mono : ∀ a0 a1 a2 a3 a4 k, LeO (mat_Matrix_Scale.f k a0 a1 a2 a3 a4) (mat_Matrix_Scale.f (k + 1) a0 a1 a2 a3 a4) := by
 intro a0 a1 a2 a3 a4 k
 have ih0 := mat_Matrix_Scale.mono_l k
 unfold mat_Matrix_Scale.f
 repeat' with_reducible first | apply ih0 | apply mat_Matrix_Clone.mono | apply more_Scale.mono | exact LeO.refl _ | exact LeO.none _ | refine LeO.ite ?_ ?_ | refine LeO.bind ?_ (fun _ => ?_)
set_option maxHeartbeats 8000000 in
set_option maxRecDepth 100000 in
theorem mat_Matrix_Scale.calls (k : Nat) (a0_0 : Int) (a0_1 : Int) (a0_2 : Int) (A0_3 : Option Addr) (c0_3 : Nat) (l0_3 : List Int) (a1 : Int) (r1 : Int) (r2 : Int) (r3 : Int) (r4 : List Int) (r5 : Int) (w : World) (hr0_3 : Kd.C (Kd.int .u64) w A0_3 l0_3.length l0_3) (hc0_3 : l0_3.length ≤ c0_3) (h : mat_Matrix_Scale.f k a0_0 a0_1 a0_2 l0_3 a1 = some (r1, r2, r3, r4, r5)) :
  Calls Tryd.prog 35 #[.agg #[.int .i64 a0_0, .int .i64 a0_1, .int .i64 a0_2, .slice A0_3 l0_3.length c0_3], .int .i64 a1] w fun e w' => ∃ v3_ : Value, e = .returned (.tuple #[.agg #[.int .i64 r1, .int .i64 r2, .int .i64 r3, v3_], .int .u8 r5]) ∧ Kd.R (Kd.int .u64) 32 w' w.heap.size (fun _ => True) v3_ r4 ∧ Below w.heap.size w w' := by
 have hu25 := Tryd.underlying25
 have HR0_3 := Aside0.mk hr0_3
 have HC0_3 := Aside0.mk hc0_3
 clear hr0_3 hc0_3
 have HB := Aside0.mk (Below.refl w.heap.size w)
 have H : ((mat_Matrix_Clone.f k a0_0 a0_1 a0_2 l0_3).bind fun bt185 => (mat_Matrix_Scale.l0 k a1 0 bt185.2.2.2 (bt185.2.2.2.length : Int) 0 bt185.1 bt185.2.1 bt185.2.2.1)) = some (r1, r2, r3, r4, r5) := h
 clear h
 obtain ⟨⟨t185, t186, t187, t188⟩, A30, H⟩ := Option.bind_eq_some_iff.mp H
 (try dsimp -simprocs only at H)
 have A3 := Aside0.mk A30
 clear A30
 have H' := Aside0.mk H
 clear H
 go_enter Tryd.func35, Tryd.ntmps35
 go_wp2_with (first | ((with_reducible refine gate_dst (N := 2) rfl ?_); refine gbox (N := 2) (cs := #[.int .i64 a0_0, .int .i64 a0_1, .int .i64 a0_2, .slice A0_3 l0_3.length c0_3]) (t := 25) ?_; intro gb183 hg w4 hbox hb; refine ax4 (below_step bel hb) hbox ((ge hg : w.heap.size ≤ gb183)) ((ge hg : w.heap.size ≤ gb183)) ?_; clear HB; intro HB BK183 GW183 GE183; clear hb hbox hg) | ((with_reducible refine gate_dst (N := 4) rfl ?_); refine gbox (N := 4) (cs := #[.int .i64 0, .int .i64 0, .int .i64 0, .slice none 0 0]) (t := 25) ?_; intro gb184 hg w5 hbox hb; refine ax7 (bb BK183 hb) (below_step bes hb) hbox ((ge hg : w.heap.size ≤ gb184)) ((ge hg : w.heap.size ≤ gb184)) (nl hg BK183) (ng hg BK183) ?_; clear BK183; clear HB; intro BK183 HB BK184 GW184 GE184 NB183_184 NB184_183; clear hb hbox hg; have hnb6 := NB183_184.out; have hnc6 := NB184_183.out; have hcz7_0 := bc BK183 0 rfl; have hcz7_1 := bc BK183 1 rfl; have hcz7_2 := bc BK183 2 rfl; have hcz7_3 := bc BK183 3 rfl; have hfz7_0 := blk_frozen BK183.out 0; have hfz7_1 := blk_frozen BK183.out 1; have hfz7_2 := blk_frozen BK183.out 2; have hfz7_3 := blk_frozen BK183.out 3) | ((with_reducible refine gate_callee (f := 34) rfl ?_); refine goesL_ (some 13) rfl rfl Tryd.func34 (by kernel_rfl) rfl #[.agg #[.int .i64 a0_0, .int .i64 a0_1, .int .i64 a0_2, .slice A0_3 l0_3.length c0_3]] rfl ga ?_; (with_reducible refine (mat_Matrix_Clone.calls k a0_0 a0_1 a0_2 _ _ l0_3 t185 t186 t187 t188 _ ?side1 ?side2 A3.out).mono ?_); (case side1 => repeat (first | exact (Kd.C_below HR0_3.out HB.out) | (with_reducible refine Kd.C_alloc ?_ _) | (with_reducible refine Kd.C_drewN ?_ _) | (with_reducible refine Kd.C_drew ?_))); (case side2 => exact HC0_3.out); rintro e w8 ⟨v189, rfl, ho0, hb⟩; refine ⟨_, rfl, ?_⟩; refine ax4 (Kd.R_lower ho0 (below_size bes)) (bb BK183 hb) (bb BK184 hb) (below_step bes hb) ?_; clear BK183; clear BK184; clear HB; intro HO190 BK183 BK184 HB; (try clear hb); (try clear ho0)) | ((with_reducible refine gate_dst (N := 6) rfl ?_); refine gbox (N := 6) (cs := #[.int .i64 0, .int .i64 0, .int .i64 0, .slice none 0 0]) (t := 25) ?_; intro gb191 hg w9 hbox hb; refine ax11 (Kd.R_below (kr HO190) hb) (bb BK183 hb) (bb BK184 hb) (below_step bes hb) hbox ((ge hg : w.heap.size ≤ gb191)) ((ge hg : w.heap.size ≤ gb191)) (nl hg BK183) (ng hg BK183) (nl hg BK184) (ng hg BK184) ?_; clear HO190; clear BK183; clear BK184; clear HB; intro HO190 BK183 BK184 HB BK191 GW191 GE191 NB183_191 NB191_183 NB184_191 NB191_184; clear hb hbox hg; have hnb10 := NB191_183.out; have hnc10 := NB183_191.out; have hnb11 := NB191_184.out; have hnc11 := NB184_191.out; have hcz12_0 := bc BK191 0 rfl; have hcz12_1 := bc BK191 1 rfl; have hcz12_2 := bc BK191 2 rfl; have hcz12_3 := bc BK191 3 rfl; have hfz12_0 := blk_frozen BK191.out 0; have hfz12_1 := blk_frozen BK191.out 1; have hfz12_2 := blk_frozen BK191.out 2; have hfz12_3 := blk_frozen BK191.out 3; obtain ⟨Ao13, co13, eo13⟩ := Kd.R_slice HO190.out; subst eo13))
 go_loopg [7, 17] k (fun kq v7 v17 w' => ∃ (x7_1 : Int) (x15_1 : List Int) (x17_1 : Int), v7 = .int .u8 x7_1 ∧ v17 = .int .i64 x17_1 ∧ Aside0 (mat_Matrix_Scale.l0 kq a1 x7_1 x15_1 (t188.length : Int) x17_1 t185 t186 t187 = some (r1, r2, r3, r4, r5)) ∧ Aside0 (kq ≤ k) ∧ Aside0 (Kd.R (Kd.int .u64) 32 w' w.heap.size (fun _ => True) (.slice Ao13 t188.length co13) x15_1) ∧ Aside0 (w'.heap[gb183]? = some (.cells #[.int .i64 a0_0, .int .i64 a0_1, .int .i64 a0_2, (.slice A0_3 l0_3.length c0_3)] 25 (0, 0))) ∧ Aside0 (w'.heap[gb184]? = some (.cells #[.int .i64 0, .int .i64 0, .int .i64 0, (.slice none 0 0)] 25 (0, 0))) ∧ Aside0 (w'.heap[gb191]? = some (.cells #[.int .i64 t185, .int .i64 t186, .int .i64 t187, (.slice Ao13 t188.length co13)] 25 (0, 0))) ∧ Aside0 (Below w.heap.size w w'))
 case atStart => exact ⟨(0), (t188), (0), (by first | rfl | (simp; done) | (simp [*]; done)), (by first | rfl | (simp; done) | (simp [*]; done)), H', ⟨Nat.le_refl _⟩, ⟨by (with_reducible repeat (first | apply Kd.R_alloc | apply Kd.R_drewN | apply Kd.R_drew)); exact Kd.R_mono (Kd.R_far (p := ⟨gb191, 3, none⟩) (Kd.R_far (p := ⟨gb191, 2, none⟩) (Kd.R_far (p := ⟨gb191, 1, none⟩) (Kd.R_far (p := ⟨gb191, 0, none⟩) (Kd.R_types HO190.out BK191.out (by decide)) (fun _ hk => hk.2) (.int .i64 t185)) (fun _ hk => hk.2) (.int .i64 t186)) (fun _ hk => hk.2) (.int .i64 t187)) (fun _ hk => hk.2) (.slice Ao13 t188.length co13)) (fun _ hk => trivial)⟩, ⟨by (with_reducible repeat (first | refine blk_drewN ?_ _ | refine blk_drew ?_ | refine blk_alloc ?_ _)); refine blk_far ?_ NB183_191.out _; (with_reducible repeat (first | refine blk_drewN ?_ _ | refine blk_drew ?_ | refine blk_alloc ?_ _)); refine blk_far ?_ NB183_191.out _; (with_reducible repeat (first | refine blk_drewN ?_ _ | refine blk_drew ?_ | refine blk_alloc ?_ _)); refine blk_far ?_ NB183_191.out _; (with_reducible repeat (first | refine blk_drewN ?_ _ | refine blk_drew ?_ | refine blk_alloc ?_ _)); refine blk_far ?_ NB183_191.out _; (with_reducible repeat (first | refine blk_drewN ?_ _ | refine blk_drew ?_ | refine blk_alloc ?_ _)); exact BK183.out⟩, ⟨by (with_reducible repeat (first | refine blk_drewN ?_ _ | refine blk_drew ?_ | refine blk_alloc ?_ _)); refine blk_far ?_ NB184_191.out _; (with_reducible repeat (first | refine blk_drewN ?_ _ | refine blk_drew ?_ | refine blk_alloc ?_ _)); refine blk_far ?_ NB184_191.out _; (with_reducible repeat (first | refine blk_drewN ?_ _ | refine blk_drew ?_ | refine blk_alloc ?_ _)); refine blk_far ?_ NB184_191.out _; (with_reducible repeat (first | refine blk_drewN ?_ _ | refine blk_drew ?_ | refine blk_alloc ?_ _)); refine blk_far ?_ NB184_191.out _; (with_reducible repeat (first | refine blk_drewN ?_ _ | refine blk_drew ?_ | refine blk_alloc ?_ _)); exact BK184.out⟩, ⟨by (with_reducible repeat (first | refine blk_drewN ?_ _ | refine blk_drew ?_ | refine blk_alloc ?_ _)); refine blk_put (cs := #[.int .i64 t185, .int .i64 t186, .int .i64 t187, .slice none 0 0]) ?_ 3 _ rfl; (with_reducible repeat (first | refine blk_drewN ?_ _ | refine blk_drew ?_ | refine blk_alloc ?_ _)); refine blk_put (cs := #[.int .i64 t185, .int .i64 t186, .int .i64 0, .slice none 0 0]) ?_ 2 _ rfl; (with_reducible repeat (first | refine blk_drewN ?_ _ | refine blk_drew ?_ | refine blk_alloc ?_ _)); refine blk_put (cs := #[.int .i64 t185, .int .i64 0, .int .i64 0, .slice none 0 0]) ?_ 1 _ rfl; (with_reducible repeat (first | refine blk_drewN ?_ _ | refine blk_drew ?_ | refine blk_alloc ?_ _)); refine blk_put (cs := #[.int .i64 0, .int .i64 0, .int .i64 0, .slice none 0 0]) ?_ 0 _ rfl; (with_reducible repeat (first | refine blk_drewN ?_ _ | refine blk_drew ?_ | refine blk_alloc ?_ _)); exact BK191.out⟩, ⟨bes⟩⟩
 case round =>
  clear H'
  try clear c1
  try clear p2
  try clear c3
  try clear c6
  try clear c10
  try clear c11
  try clear hcz12_0
  try clear hcz12_1
  try clear hcz12_2
  try clear hcz12_3
  try clear hcz7_0
  try clear hcz7_1
  try clear hcz7_2
  try clear hcz7_3
  try clear hfz12_0
  try clear hfz12_1
  try clear hfz12_2
  try clear hfz12_3
  try clear hfz7_0
  try clear hfz7_1
  try clear hfz7_2
  try clear hfz7_3
  obtain ⟨x7_1, x15_1, x17_1, rfl, rfl, HA, HK1, HO_15, BK183, BK184, BK191, HB⟩ := hrel
  have hl15_1 := (Kd.R_reads' HO_15.out).1
  rw [hl15_1] at HO_15
  (try simp only [hl15_1])
  (try simp only [hl15_1] at BK183)
  (try simp only [hl15_1] at BK184)
  (try simp only [hl15_1] at BK191)
  cases gk with
  | zero => exact absurd HA.out (by simp [mat_Matrix_Scale.l0])
  | succ k1 =>
   have H := HA.out
   clear HA
   simp only [mat_Matrix_Scale.l0] at H
   by_cases c14 : x17_1 < (t188.length : Int)
   ·
    rw [if_pos c14] at H
    have c14b0 : decide (x17_1 < (t188.length : Int)) = true := decide_eq_true c14
    (try (have c14b0_ := c14b0; simp only [hl15_1] at c14b0_))
    clear c14
    by_cases c15 : 0 ≤ x17_1
    rotate_left
    ·
     rw [if_neg c15] at H
     exact absurd H (by simp)
    rw [if_pos c15] at H
    have c15b0 : decide (0 ≤ x17_1) = true := decide_eq_true c15
    clear c15
    by_cases c16 : x17_1 < (x15_1.length : Int)
    rotate_left
    ·
     rw [if_neg c16] at H
     exact absurd H (by simp)
    rw [if_pos c16] at H
    have c16b0 : decide (x17_1 < (x15_1.length : Int)) = true := decide_eq_true c16
    (try (have c16b0_ := c16b0; simp only [hl15_1] at c16b0_))
    clear c16
    obtain ⟨⟨t193, t194⟩, A170, H⟩ := Option.bind_eq_some_iff.mp H
    (try dsimp -simprocs only at H)
    have A17 := Aside0.mk A170
    clear A170
    obtain ⟨y195, hy195⟩ : ∃ y_ : List Int, y_ = (x15_1.set (x17_1 : Int).toNat t193) := ⟨_, rfl⟩
    replace H : (mat_Matrix_Scale.l0 k1 a1 (Go.bits .or .u8 x7_1 t194) y195 (t188.length : Int) (wrap64 (x17_1 + 1)) t185 t186 t187) = some (r1, r2, r3, r4, r5) := by first | (rw [hy195]; with_reducible exact H) | (have H2_ := (Option.bind_some _ _).symm.trans H; rw [hy195]; with_reducible exact H2_) | (have H2_ := (Option.bind_some _ _).symm.trans H; with_reducible exact H2_) | with_reducible exact H | (rw [hy195]; exact H) | exact H
    have Ny195 := Aside0.mk hy195
    clear hy195
    have H' := Aside0.mk H
    clear H
    have p192 : 0 ≤ (x17_1 : Int) := of_decide_eq_true (by first | (with_reducible assumption) | assumption)
    have q192 : x17_1 < (x15_1.length : Int) := of_decide_eq_true (by first | (with_reducible assumption) | assumption)
    obtain ⟨ad192, e192, hx192_0⟩ := Kd.at_int (Kd.R_reads' HO_15.out).2.2 x17_1 p192 q192
    cases e192
    replace p192 := eq_true p192
    replace q192 := eq_true q192
    go_wp2_with (first | ((with_reducible refine gate_callee (f := 17) rfl ?_); refine goesL_ (some 25) rfl rfl Tryd.func17 (by kernel_rfl) rfl #[.int .u64 (rd x15_1 x17_1), .int .i64 a1] rfl ga ?_; (with_reducible refine (more_Scale.calls k1 (rd x15_1 x17_1) a1 t193 t194 _ A17.out).mono ?_); rintro e w19 ⟨rfl, hb⟩; refine ⟨_, rfl, ?_⟩; refine ax5 (Kd.R_below (kr HO_15) hb) (bb BK183 hb) (bb BK184 hb) (bb BK191 hb) (below_step bes hb) ?_; clear HO_15; clear BK183; clear BK184; clear BK191; clear HB; intro HO_15 BK183 BK184 BK191 HB; (try clear hb); have hnb20 := NB191_183.out; have hnc20 := NB183_191.out; have hnb21 := NB191_184.out; have hnc21 := NB184_191.out; have hcz22_0 := bc BK191 0 rfl; have hcz22_1 := bc BK191 1 rfl; have hcz22_2 := bc BK191 2 rfl; have hcz22_3 := bc BK191 3 rfl; have hfz22_0 := blk_frozen BK191.out 0; have hfz22_1 := blk_frozen BK191.out 1; have hfz22_2 := blk_frozen BK191.out 2; have hfz22_3 := blk_frozen BK191.out 3; have p18 : 0 ≤ (x17_1 : Int) := of_decide_eq_true (by first | (with_reducible assumption) | assumption); have q18 : (x17_1 : Int) < ((x15_1.length : Int) : Int) := of_decide_eq_true (by first | (with_reducible assumption) | assumption); obtain ⟨go18, co18, eo18, gb18, gl18, cl18, HG18⟩ := Kd.R_form HO_15.out (by omega); (first | cases eo18 | (injection eo18 with ea_ en_ ec_; (first | subst ea_ | (injection ea_ with ea_; subst ea_)); subst ec_; clear en_)); have GB18 := Aside0.mk gb18; have GG18 := Aside0.mk HG18; clear gb18 gl18 HG18; (first | simp only [add_plain] at hx192_0 | skip); obtain ⟨hx18_0, hf18_0⟩ := Kd.R_celln 0 HO_15.out (x17_1 : Int) p18 q18; replace p18 := eq_true p18; replace q18 := eq_true q18; obtain ⟨hy23_, hz23_⟩ := Kd.R_celln 0 HO_15.out (x17_1 : Int) (of_decide_eq_true (by first | (with_reducible assumption) | assumption)) (of_decide_eq_true (by first | (with_reducible assumption) | assumption)); have HP23 := Kd.R_putg HO_15.out (x17_1 : Int) t193) | ((with_reducible refine gate_store (t := 32) (p := 35) rfl ?_); refine store_event (t := 32) (p := 35) (v := ?vo_w24) (w1 := (w19.setCell ⟨go18, (x17_1 : Int).toNat, none⟩ (.int .u64 t193))) ?hg ?ho ?hn ?hr ?_; (case ho => rfl); (case hg => rfl); (case hn => rfl); (case hr => first | (go_simp; done) | (go_simp; rfl)); intro w24 hw; have hg : w19.grownBy w24 (some go18) := (by rw [hw]; exact HP23.2); have hp_ : Kd.R (Kd.int .u64) 32 w24 w.heap.size (fun _ => True) (.slice (some ⟨go18, 0, none⟩) x15_1.length co13) y195 := (by rw [hw, Ny195.out]; exact HP23.1); clear HP23; refine ax5 hp_ (blk_grown (g := gb183) (o := .cells #[.int .i64 a0_0, .int .i64 a0_1, .int .i64 a0_2, .slice A0_3 l0_3.length c0_3] 25 (0, 0)) (kb BK183) hg (Kd.R_ne HO_15.out BK183.out (by decide))) (blk_grown (g := gb184) (o := .cells #[.int .i64 0, .int .i64 0, .int .i64 0, .slice none 0 0] 25 (0, 0)) (kb BK184) hg (Kd.R_ne HO_15.out BK184.out (by decide))) (blk_grown (g := gb191) (o := .cells #[.int .i64 t185, .int .i64 t186, .int .i64 t187, .slice (some ⟨go18, 0, none⟩) x15_1.length co13] 25 (0, 0)) (kb BK191) hg (Kd.R_ne HO_15.out BK191.out (by decide))) ((by rw [hw]; exact below_set (HB.out) GB18.out : Below w.heap.size w w24)) ?_; clear HO_15; clear BK183; clear BK184; clear BK191; clear HB; intro HO_15 BK183 BK184 BK191 HB; clear hg hw hp_))
    (try simp only [← hl15_1])
    go_roundg k1
    case measure => have := HK1.out; omega
    case rel => exact ⟨(Go.bits .or .u8 x7_1 t194), (y195), (wrap64 (x17_1 + 1)), (by first | rfl | (simp; done) | (simp [*]; done)), (by first | rfl | (simp; done) | (simp [*]; done)), H', ⟨by have := HK1.out; omega⟩, ⟨by (try simp only [hl15_1]); (with_reducible repeat (first | apply Kd.R_alloc | apply Kd.R_drewN | apply Kd.R_drew)); exact HO_15.out⟩, ⟨by (try simp only [hl15_1]); (with_reducible repeat (first | refine blk_drewN ?_ _ | refine blk_drew ?_ | refine blk_alloc ?_ _)); exact BK183.out⟩, ⟨by (try simp only [hl15_1]); (with_reducible repeat (first | refine blk_drewN ?_ _ | refine blk_drew ?_ | refine blk_alloc ?_ _)); exact BK184.out⟩, ⟨by (try simp only [hl15_1]); (with_reducible repeat (first | refine blk_drewN ?_ _ | refine blk_drew ?_ | refine blk_alloc ?_ _)); exact BK191.out⟩, ⟨bes⟩⟩
   ·
    rw [if_neg c14] at H
    have c14b0 : decide (x17_1 < (t188.length : Int)) = false := decide_eq_false c14
    (try (have c14b0_ := c14b0; simp only [hl15_1] at c14b0_))
    clear c14
    simp only [Option.some.injEq, Prod.mk.injEq] at H
    obtain ⟨rfl, rfl, rfl, rfl, rfl⟩ := H
    have hnb25 := NB191_183.out
    have hnc25 := NB183_191.out
    have hnb26 := NB191_184.out
    have hnc26 := NB184_191.out
    have hcz27_0 := bc BK191 0 rfl
    have hcz27_1 := bc BK191 1 rfl
    have hcz27_2 := bc BK191 2 rfl
    have hcz27_3 := bc BK191 3 rfl
    have hfz27_0 := blk_frozen BK191.out 0
    have hfz27_1 := blk_frozen BK191.out 1
    have hfz27_2 := blk_frozen BK191.out 2
    have hfz27_3 := blk_frozen BK191.out 3
    have hnb28 := NB184_183.out
    have hnc28 := NB183_184.out
    have hcz29_0 := bc BK184 0 rfl
    have hcz29_1 := bc BK184 1 rfl
    have hcz29_2 := bc BK184 2 rfl
    have hcz29_3 := bc BK184 3 rfl
    have hfz29_0 := blk_frozen BK184.out 0
    have hfz29_1 := blk_frozen BK184.out 1
    have hfz29_2 := blk_frozen BK184.out 2
    have hfz29_3 := blk_frozen BK184.out 3
    go_wp2
    refine bodyPost_ret (results_ct rfl _ _ gb184 25 #[.int .i64 t185, .int .i64 t186, .int .i64 t187, .slice Ao13 x15_1.length co13] (0, 0) _ rfl (by (with_reducible repeat (first | refine blk_drewN ?_ _ | refine blk_drew ?_ | refine blk_alloc ?_ _)); refine blk_put (cs := #[.int .i64 t185, .int .i64 t186, .int .i64 t187, .slice none 0 0]) ?_ 3 _ rfl; (with_reducible repeat (first | refine blk_drewN ?_ _ | refine blk_drew ?_ | refine blk_alloc ?_ _)); refine blk_put (cs := #[.int .i64 t185, .int .i64 t186, .int .i64 0, .slice none 0 0]) ?_ 2 _ rfl; (with_reducible repeat (first | refine blk_drewN ?_ _ | refine blk_drew ?_ | refine blk_alloc ?_ _)); refine blk_put (cs := #[.int .i64 t185, .int .i64 0, .int .i64 0, .slice none 0 0]) ?_ 1 _ rfl; (with_reducible repeat (first | refine blk_drewN ?_ _ | refine blk_drew ?_ | refine blk_alloc ?_ _)); refine blk_put (cs := #[.int .i64 0, .int .i64 0, .int .i64 0, .slice none 0 0]) ?_ 0 _ rfl; (with_reducible repeat (first | refine blk_drewN ?_ _ | refine blk_drew ?_ | refine blk_alloc ?_ _)); exact BK184.out) Tryd.underlying25 rfl (by kernel_rfl)) rfl ?_
    exact ⟨_, er, by (with_reducible repeat (first | apply Kd.R_alloc | apply Kd.R_drewN | apply Kd.R_drew)); exact Kd.R_mono (Kd.R_far (p := ⟨gb184, 3, none⟩) (Kd.R_far (p := ⟨gb184, 2, none⟩) (Kd.R_far (p := ⟨gb184, 1, none⟩) (Kd.R_far (p := ⟨gb184, 0, none⟩) (Kd.R_types HO_15.out BK184.out (by decide)) (fun _ hk => hk.2) (.int .i64 t185)) (fun _ hk => hk.2) (.int .i64 t186)) (fun _ hk => hk.2) (.int .i64 t187)) (fun _ hk => hk.2) (.slice Ao13 x15_1.length co13)) (fun _ hk => trivial), bes⟩

/-! ### mat_Matrix_Unit: function 14 -/
mutual
def mat_Matrix_Unit.l0 : Nat → Int → Int → Int → Int → Int → Int → List Int → Option (Int × Int × Int × List Int × Int)
 | 0, _, _, _, _, _, _, _ => none
 | k + 1, x4, x12, x13, x197000, x197001, x197002, x197003 => if x13 < x12 then (mat_Matrix_Unit.l1 k x4 x13 x12 x13 x197001 0 x197000 x197001 x197002 x197003) else ((word_Parts.f k x4).bind fun bt200 => (if bt200.1 = 0 then ((mat_Matrix_Clone.f k x197000 x197001 x197002 x197003).bind fun bt202 => (some (bt202.1, bt202.2.1, bt202.2.2.1, bt202.2.2.2, 0))) else (mat_Matrix_Unit.l2 k bt200.1 bt200.2 x197000 x197001 x197002 x197003)))
def mat_Matrix_Unit.l1 : Nat → Int → Int → Int → Int → Int → Int → Int → Int → Int → List Int → Option (Int × Int × Int × List Int × Int)
 | 0, _, _, _, _, _, _, _, _, _, _ => none
 | k + 1, x4, x5, x12, x13, x17, x18, x197000, x197001, x197002, x197003 => if x18 < x17 then ((mat_Matrix_At.f x197000 x197001 x197002 x197003 x5 x18).bind fun t198 => ((word_Abs.f t198).bind fun t199 => (mat_Matrix_Unit.l1 k (mx x4 t199) x5 x12 x13 x17 (wrap64 (x18 + 1)) x197000 x197001 x197002 x197003))) else (mat_Matrix_Unit.l0 k x4 x12 (wrap64 (x13 + 1)) x197000 x197001 x197002 x197003)
def mat_Matrix_Unit.l2 : Nat → Int → Int → Int → Int → Int → List Int → Option (Int × Int × Int × List Int × Int)
 | 0, _, _, _, _, _, _ => none
 | k + 1, x7, x8, x197000, x197001, x197002, x197003 => if x7 > 1 then (mat_Matrix_Unit.l2 k (x7 / 2) (wrap64 (x8 + 1)) x197000 x197001 x197002 x197003) else ((mat_Matrix_Scale.f k x197000 x197001 x197002 x197003 (wrap64 (-x8))).bind fun bt208 => (some (bt208.1, bt208.2.1, bt208.2.2.1, bt208.2.2.2.1, x8)))
end
def mat_Matrix_Unit.f (k : Nat) (a0_0 : Int) (a0_1 : Int) (a0_2 : Int) (l0_3 : List Int) : Option (Int × Int × Int × List Int × Int) := mat_Matrix_Unit.l0 k 0 a0_0 0 a0_0 a0_1 a0_2 l0_3
theorem mat_Matrix_Unit.mono_l : ∀ k, (∀ y0 y1 y2 y3 y4 y5 y6, LeO (mat_Matrix_Unit.l0 k y0 y1 y2 y3 y4 y5 y6) (mat_Matrix_Unit.l0 (k + 1) y0 y1 y2 y3 y4 y5 y6)) ∧ (∀ y0 y1 y2 y3 y4 y5 y6 y7 y8 y9, LeO (mat_Matrix_Unit.l1 k y0 y1 y2 y3 y4 y5 y6 y7 y8 y9) (mat_Matrix_Unit.l1 (k + 1) y0 y1 y2 y3 y4 y5 y6 y7 y8 y9)) ∧ (∀ y0 y1 y2 y3 y4 y5, LeO (mat_Matrix_Unit.l2 k y0 y1 y2 y3 y4 y5) (mat_Matrix_Unit.l2 (k + 1) y0 y1 y2 y3 y4 y5))
 | 0 => ⟨fun _ _ _ _ _ _ _ r h => by simp [mat_Matrix_Unit.l0] at h, fun _ _ _ _ _ _ _ _ _ _ r h => by simp [mat_Matrix_Unit.l1] at h, fun _ _ _ _ _ _ r h => by simp [mat_Matrix_Unit.l2] at h⟩
 | k + 1 => by
  obtain ⟨ih0, ih1, ih2⟩ := mat_Matrix_Unit.mono_l k
  refine ⟨?_, ?_, ?_⟩ <;> intros <;> (first | unfold mat_Matrix_Unit.l0 | unfold mat_Matrix_Unit.l1 | unfold mat_Matrix_Unit.l2) <;>
   repeat' with_reducible first | apply ih0 | apply ih1 | apply ih2 | apply mat_Matrix_Clone.mono | apply mat_Matrix_Scale.mono | apply word_Parts.mono | exact LeO.refl _ | exact LeO.none _ | refine LeO.ite ?_ ?_ | refine LeO.bind ?_ (fun _ => ?_)
theorem mat_Matrix_Unit.mono : ∀ a0 a1 a2 a3 k, LeO (mat_Matrix_Unit.f k a0 a1 a2 a3) (mat_Matrix_Unit.f (k + 1) a0 a1 a2 a3) := by
 intro a0 a1 a2 a3 k
 obtain ⟨ih0, ih1, ih2⟩ := mat_Matrix_Unit.mono_l k
 unfold mat_Matrix_Unit.f
 repeat' with_reducible first | apply ih0 | apply ih1 | apply ih2 | apply mat_Matrix_Clone.mono | apply mat_Matrix_Scale.mono | apply word_Parts.mono | exact LeO.refl _ | exact LeO.none _ | refine LeO.ite ?_ ?_ | refine LeO.bind ?_ (fun _ => ?_)
set_option maxHeartbeats 8000000 in
set_option maxRecDepth 100000 in
theorem mat_Matrix_Unit.calls (k : Nat) (a0_0 : Int) (a0_1 : Int) (a0_2 : Int) (A0_3 : Option Addr) (c0_3 : Nat) (l0_3 : List Int) (r1 : Int) (r2 : Int) (r3 : Int) (r4 : List Int) (r5 : Int) (w : World) (hr0_3 : Kd.C (Kd.int .u64) w A0_3 l0_3.length l0_3) (hc0_3 : l0_3.length ≤ c0_3) (h : mat_Matrix_Unit.f k a0_0 a0_1 a0_2 l0_3 = some (r1, r2, r3, r4, r5)) :
  Calls Tryd.prog 14 #[.agg #[.int .i64 a0_0, .int .i64 a0_1, .int .i64 a0_2, .slice A0_3 l0_3.length c0_3]] w fun e w' => ∃ v3_ : Value, e = .returned (.tuple #[.agg #[.int .i64 r1, .int .i64 r2, .int .i64 r3, v3_], .int .i64 r5]) ∧ Kd.R (Kd.int .u64) 32 w' w.heap.size (fun _ => True) v3_ r4 ∧ Below w.heap.size w w' := by
 have hu25 := Tryd.underlying25
 have HR0_3 := Aside0.mk hr0_3
 have HC0_3 := Aside0.mk hc0_3
 clear hr0_3 hc0_3
 have HB := Aside0.mk (Below.refl w.heap.size w)
 have H : (mat_Matrix_Unit.l0 k 0 a0_0 0 a0_0 a0_1 a0_2 l0_3) = some (r1, r2, r3, r4, r5) := h
 clear h
 have H' := Aside0.mk H
 clear H
 go_enter Tryd.func14, Tryd.ntmps14
 go_wp2_with (first | ((with_reducible refine gate_dst (N := 1) rfl ?_); refine gbox (N := 1) (cs := #[.int .i64 a0_0, .int .i64 a0_1, .int .i64 a0_2, .slice A0_3 l0_3.length c0_3]) (t := 25) ?_; intro gb196 hg w2 hbox hb; refine ax4 (below_step bel hb) hbox ((ge hg : w.heap.size ≤ gb196)) ((ge hg : w.heap.size ≤ gb196)) ?_; clear HB; intro HB BK196 GW196 GE196; clear hb hbox hg) | ((with_reducible refine gate_dst (N := 2) rfl ?_); refine gbox (N := 2) (cs := #[.int .i64 0, .int .i64 0, .int .i64 0, .slice none 0 0]) (t := 25) ?_; intro gb197 hg w3 hbox hb; refine ax7 (bb BK196 hb) (below_step bes hb) hbox ((ge hg : w.heap.size ≤ gb197)) ((ge hg : w.heap.size ≤ gb197)) (nl hg BK196) (ng hg BK196) ?_; clear BK196; clear HB; intro BK196 HB BK197 GW197 GE197 NB196_197 NB197_196; clear hb hbox hg; have hnb4 := NB196_197.out; have hnc4 := NB197_196.out; have hcz5_0 := bc BK196 0 rfl; have hcz5_1 := bc BK196 1 rfl; have hcz5_2 := bc BK196 2 rfl; have hcz5_3 := bc BK196 3 rfl; have hfz5_0 := blk_frozen BK196.out 0; have hfz5_1 := blk_frozen BK196.out 1; have hfz5_2 := blk_frozen BK196.out 2; have hfz5_3 := blk_frozen BK196.out 3))
 go_loopg [4, 13] k (fun kq v4 v13 w' => ∃ (x4_1 : Int) (x13_1 : Int), v4 = .int .u64 x4_1 ∧ v13 = .int .i64 x13_1 ∧ Aside0 (mat_Matrix_Unit.l0 kq x4_1 a0_0 x13_1 a0_0 a0_1 a0_2 l0_3 = some (r1, r2, r3, r4, r5)) ∧ Aside0 (kq ≤ k) ∧ Aside0 (w'.heap[gb196]? = some (.cells #[.int .i64 a0_0, .int .i64 a0_1, .int .i64 a0_2, (.slice A0_3 l0_3.length c0_3)] 25 (0, 0))) ∧ Aside0 (w'.heap[gb197]? = some (.cells #[.int .i64 0, .int .i64 0, .int .i64 0, (.slice none 0 0)] 25 (0, 0))) ∧ Aside0 (Below w.heap.size w w'))
 case atStart => exact ⟨(0), (0), (by first | rfl | (simp; done) | (simp [*]; done)), (by first | rfl | (simp; done) | (simp [*]; done)), H', ⟨Nat.le_refl _⟩, ⟨kb BK196⟩, ⟨kb BK197⟩, ⟨bes⟩⟩
 case round =>
  clear H'
  try clear c1
  try clear p2
  try clear c4
  try clear hcz5_0
  try clear hcz5_1
  try clear hcz5_2
  try clear hcz5_3
  try clear hfz5_0
  try clear hfz5_1
  try clear hfz5_2
  try clear hfz5_3
  obtain ⟨x4_1, x13_1, rfl, rfl, HA, HK1, BK196, BK197, HB⟩ := hrel
  cases gk with
  | zero => exact absurd HA.out (by simp [mat_Matrix_Unit.l0])
  | succ k1 =>
   have H := HA.out
   clear HA
   simp only [mat_Matrix_Unit.l0] at H
   by_cases c6 : x13_1 < a0_0
   ·
    rw [if_pos c6] at H
    have c6b0 : decide (x13_1 < a0_0) = true := decide_eq_true c6
    clear c6
    have H' := Aside0.mk H
    clear H
    have hnb7 := NB196_197.out
    have hnc7 := NB197_196.out
    have hcz8_0 := bc BK196 0 rfl
    have hcz8_1 := bc BK196 1 rfl
    have hcz8_2 := bc BK196 2 rfl
    have hcz8_3 := bc BK196 3 rfl
    have hfz8_0 := blk_frozen BK196.out 0
    have hfz8_1 := blk_frozen BK196.out 1
    have hfz8_2 := blk_frozen BK196.out 2
    have hfz8_3 := blk_frozen BK196.out 3
    go_wp2
    go_loopg [4, 18] k1 (fun kq v4 v18 w' => ∃ (x4_2 : Int) (x18_2 : Int), v4 = .int .u64 x4_2 ∧ v18 = .int .i64 x18_2 ∧ Aside0 (mat_Matrix_Unit.l1 kq x4_2 x13_1 a0_0 x13_1 a0_1 x18_2 a0_0 a0_1 a0_2 l0_3 = some (r1, r2, r3, r4, r5)) ∧ Aside0 (kq ≤ k1) ∧ Aside0 (w'.heap[gb196]? = some (.cells #[.int .i64 a0_0, .int .i64 a0_1, .int .i64 a0_2, (.slice A0_3 l0_3.length c0_3)] 25 (0, 0))) ∧ Aside0 (w'.heap[gb197]? = some (.cells #[.int .i64 0, .int .i64 0, .int .i64 0, (.slice none 0 0)] 25 (0, 0))) ∧ Aside0 (Below w.heap.size w w'))
    case atStart => exact ⟨(x4_1), (0), (by first | rfl | (simp; done) | (simp [*]; done)), (by first | rfl | (simp; done) | (simp [*]; done)), H', ⟨Nat.le_refl _⟩, ⟨kb BK196⟩, ⟨kb BK197⟩, ⟨bes⟩⟩
    case round =>
     clear H'
     try clear c1
     try clear p2
     try clear c4
     try clear c6
     try clear c6b0
     try clear c7
     try clear hcz5_0
     try clear hcz5_1
     try clear hcz5_2
     try clear hcz5_3
     try clear hcz8_0
     try clear hcz8_1
     try clear hcz8_2
     try clear hcz8_3
     try clear hfz5_0
     try clear hfz5_1
     try clear hfz5_2
     try clear hfz5_3
     try clear hfz8_0
     try clear hfz8_1
     try clear hfz8_2
     try clear hfz8_3
     try clear p2
     obtain ⟨x4_2, x18_2, rfl, rfl, HA, HK2, BK196, BK197, HB⟩ := hrel
     cases gk with
     | zero => exact absurd HA.out (by simp [mat_Matrix_Unit.l1])
     | succ k2 =>
      have H := HA.out
      clear HA
      simp only [mat_Matrix_Unit.l1] at H
      by_cases c9 : x18_2 < a0_1
      rotate_left
      ·
       rw [if_neg c9] at H
       have c9b0 : decide (x18_2 < a0_1) = false := decide_eq_false c9
       clear c9
       have H' := Aside0.mk H
       clear H
       go_wp2
       go_roundg k2
       case measure => have := HK1.out; have := HK2.out; omega
       case rel => exact ⟨(x4_2), (wrap64 (x13_1 + 1)), (by first | rfl | (simp; done) | (simp [*]; done)), (by first | rfl | (simp; done) | (simp [*]; done)), H', ⟨by have := HK1.out; have := HK2.out; omega⟩, ⟨kb BK196⟩, ⟨kb BK197⟩, ⟨bes⟩⟩
      rw [if_pos c9] at H
      have c9b0 : decide (x18_2 < a0_1) = true := decide_eq_true c9
      clear c9
      obtain ⟨t198, A100, H⟩ := Option.bind_eq_some_iff.mp H
      (try dsimp -simprocs only at H)
      have A10 := Aside0.mk A100
      clear A100
      obtain ⟨t199, A110, H⟩ := Option.bind_eq_some_iff.mp H
      (try dsimp -simprocs only at H)
      have A11 := Aside0.mk A110
      clear A110
      obtain ⟨ji12, hji12⟩ : ∃ j_ : Int, (mx x4_2 t199) = j_ := ⟨_, rfl⟩
      replace H : (mat_Matrix_Unit.l1 k2 ji12 x13_1 a0_0 x13_1 a0_1 (wrap64 (x18_2 + 1)) a0_0 a0_1 a0_2 l0_3) = some (r1, r2, r3, r4, r5) := by first | (rw [hji12] at H; exact H) | (simp only [hji12] at H ⊢; exact H)
      (try rw [hji12] at A10)
      (try rw [hji12] at A11)
      have hji12_ : (if x4_2 < t199 then t199 else x4_2) = ji12 := hji12
      have H' := Aside0.mk H
      clear H
      have hnb13 := NB196_197.out
      have hnc13 := NB197_196.out
      have hcz14_0 := bc BK196 0 rfl
      have hcz14_1 := bc BK196 1 rfl
      have hcz14_2 := bc BK196 2 rfl
      have hcz14_3 := bc BK196 3 rfl
      have hfz14_0 := blk_frozen BK196.out 0
      have hfz14_1 := blk_frozen BK196.out 1
      have hfz14_2 := blk_frozen BK196.out 2
      have hfz14_3 := blk_frozen BK196.out 3
      go_wp2_with (first | ((with_reducible refine gate_callee (f := 8) rfl ?_); refine goesL_ (some 25) rfl rfl Tryd.func8 (by kernel_rfl) rfl #[.agg #[.int .i64 a0_0, .int .i64 a0_1, .int .i64 a0_2, .slice A0_3 l0_3.length c0_3], .int .i64 x13_1, .int .i64 x18_2] rfl ga ?_; (with_reducible refine (mat_Matrix_At.calls a0_0 a0_1 a0_2 _ _ l0_3 x13_1 x18_2 t198 _ ?side1 ?side2 A10.out).mono ?_); (case side1 => repeat (first | exact (Kd.C_below HR0_3.out HB.out) | (with_reducible refine Kd.C_alloc ?_ _) | (with_reducible refine Kd.C_drewN ?_ _) | (with_reducible refine Kd.C_drew ?_))); (case side2 => exact HC0_3.out); rintro e w15 ⟨rfl, hb⟩; refine ⟨_, rfl, ?_⟩; refine ax3 (bb BK196 hb) (bb BK197 hb) (below_step bes hb) ?_; clear BK196; clear BK197; clear HB; intro BK196 BK197 HB; (try clear hb)) | ((with_reducible refine gate_callee (f := 33) rfl ?_); refine goesL_ (some 26) rfl rfl Tryd.func33 (by kernel_rfl) rfl #[.int .u64 t198] rfl ga ?_; (with_reducible refine (word_Abs.calls t198 t199 _ A11.out).mono ?_); rintro e w' ⟨rfl, ⟨nd, rfl⟩⟩; refine ⟨_, rfl, ?_⟩))
      go_roundg k2
      case measure => have := HK1.out; have := HK2.out; omega
      case rel => exact ⟨(ji12), (wrap64 (x18_2 + 1)), (by first | rfl | (simp; done) | (simp only [← hji12] <;> (first | rfl | simp)) | (simp [*]; done)), (by first | rfl | (simp; done) | (simp [*]; done)), H', ⟨by have := HK1.out; have := HK2.out; omega⟩, ⟨kb BK196⟩, ⟨kb BK197⟩, ⟨bes⟩⟩
   ·
    rw [if_neg c6] at H
    have c6b0 : decide (x13_1 < a0_0) = false := decide_eq_false c6
    clear c6
    obtain ⟨⟨t200, t201⟩, A160, H⟩ := Option.bind_eq_some_iff.mp H
    (try dsimp -simprocs only at H)
    have A16 := Aside0.mk A160
    clear A160
    by_cases c17 : t200 = 0
    ·
     rw [if_pos c17] at H
     have c17b0 : (t200 == 0) = true := beq_iff_eq.mpr c17
     have c17b1 : (t200 != 0) = false := bne_eq_false_iff_eq.mpr c17
     clear c17
     obtain ⟨⟨t202, t203, t204, t205⟩, A180, H⟩ := Option.bind_eq_some_iff.mp H
     (try dsimp -simprocs only at H)
     have A18 := Aside0.mk A180
     clear A180
     simp only [Option.some.injEq, Prod.mk.injEq] at H
     obtain ⟨rfl, rfl, rfl, rfl, rfl⟩ := H
     go_wp2_with (first | ((with_reducible refine gate_callee (f := 26) rfl ?_); refine goesL_ (some 32) rfl rfl Tryd.func26 (by kernel_rfl) rfl #[.int .u64 x4_1] rfl ga ?_; (with_reducible refine (word_Parts.calls k1 x4_1 t200 t201 _ A16.out).mono ?_); rintro e w' ⟨rfl, ⟨nd, rfl⟩⟩; refine ⟨_, rfl, ?_⟩; (try (rw [drewN_self wr]; generalize hq_ : World.drewN wr _ = wr; have n0_ : Aside0 (wr.heap[gb196]? = some (.cells #[.int .i64 a0_0, .int .i64 a0_1, .int .i64 a0_2, .slice A0_3 l0_3.length c0_3] 25 (0, 0))) := ⟨by rw [← hq_]; exact (kb BK196)⟩; have n1_ : Aside0 (wr.heap[gb197]? = some (.cells #[.int .i64 0, .int .i64 0, .int .i64 0, .slice none 0 0] 25 (0, 0))) := ⟨by rw [← hq_]; exact (kb BK197)⟩; have n2_ : Aside0 (Below w.heap.size w wr) := ⟨by rw [← hq_]; exact bes⟩; clear BK196 BK197 HB hq_; have BK196 := n0_; have BK197 := n1_; have HB := n2_; clear n0_ n1_ n2_)); have hnb19 := NB196_197.out; have hnc19 := NB197_196.out; have hcz20_0 := bc BK196 0 rfl; have hcz20_1 := bc BK196 1 rfl; have hcz20_2 := bc BK196 2 rfl; have hcz20_3 := bc BK196 3 rfl; have hfz20_0 := blk_frozen BK196.out 0; have hfz20_1 := blk_frozen BK196.out 1; have hfz20_2 := blk_frozen BK196.out 2; have hfz20_3 := blk_frozen BK196.out 3) | ((with_reducible refine gate_callee (f := 34) rfl ?_); refine goesL_ (some 38) rfl rfl Tryd.func34 (by kernel_rfl) rfl #[.agg #[.int .i64 a0_0, .int .i64 a0_1, .int .i64 a0_2, .slice A0_3 l0_3.length c0_3]] rfl ga ?_; (with_reducible refine (mat_Matrix_Clone.calls k1 a0_0 a0_1 a0_2 _ _ l0_3 t202 t203 t204 t205 _ ?side1 ?side2 A18.out).mono ?_); (case side1 => repeat (first | exact (Kd.C_below HR0_3.out HB.out) | (with_reducible refine Kd.C_alloc ?_ _) | (with_reducible refine Kd.C_drewN ?_ _) | (with_reducible refine Kd.C_drew ?_))); (case side2 => exact HC0_3.out); rintro e w21 ⟨v206, rfl, ho0, hb⟩; refine ⟨_, rfl, ?_⟩; refine ax4 (Kd.R_lower ho0 (below_size bes)) (bb BK196 hb) (bb BK197 hb) (below_step bes hb) ?_; clear BK196; clear BK197; clear HB; intro HO207 BK196 BK197 HB; (try clear hb); (try clear ho0); have hcz22_0 := bc BK197 0 rfl; have hcz22_1 := bc BK197 1 rfl; have hcz22_2 := bc BK197 2 rfl; have hcz22_3 := bc BK197 3 rfl; have hfz22_0 := blk_frozen BK197.out 0; have hfz22_1 := blk_frozen BK197.out 1; have hfz22_2 := blk_frozen BK197.out 2; have hfz22_3 := blk_frozen BK197.out 3; obtain ⟨Ao23, co23, eo23⟩ := Kd.R_slice HO207.out; subst eo23))
     refine bodyPost_ret (results_ct rfl _ _ gb197 25 #[.int .i64 t202, .int .i64 t203, .int .i64 t204, .slice Ao23 t205.length co23] (0, 0) _ rfl (by (with_reducible repeat (first | refine blk_drewN ?_ _ | refine blk_drew ?_ | refine blk_alloc ?_ _)); refine blk_put (cs := #[.int .i64 t202, .int .i64 t203, .int .i64 t204, .slice none 0 0]) ?_ 3 _ rfl; (with_reducible repeat (first | refine blk_drewN ?_ _ | refine blk_drew ?_ | refine blk_alloc ?_ _)); refine blk_put (cs := #[.int .i64 t202, .int .i64 t203, .int .i64 0, .slice none 0 0]) ?_ 2 _ rfl; (with_reducible repeat (first | refine blk_drewN ?_ _ | refine blk_drew ?_ | refine blk_alloc ?_ _)); refine blk_put (cs := #[.int .i64 t202, .int .i64 0, .int .i64 0, .slice none 0 0]) ?_ 1 _ rfl; (with_reducible repeat (first | refine blk_drewN ?_ _ | refine blk_drew ?_ | refine blk_alloc ?_ _)); refine blk_put (cs := #[.int .i64 0, .int .i64 0, .int .i64 0, .slice none 0 0]) ?_ 0 _ rfl; (with_reducible repeat (first | refine blk_drewN ?_ _ | refine blk_drew ?_ | refine blk_alloc ?_ _)); exact BK197.out) Tryd.underlying25 rfl (by kernel_rfl)) rfl ?_
     exact ⟨_, er, by (with_reducible repeat (first | apply Kd.R_alloc | apply Kd.R_drewN | apply Kd.R_drew)); exact Kd.R_mono (Kd.R_far (p := ⟨gb197, 3, none⟩) (Kd.R_far (p := ⟨gb197, 2, none⟩) (Kd.R_far (p := ⟨gb197, 1, none⟩) (Kd.R_far (p := ⟨gb197, 0, none⟩) (Kd.R_types HO207.out BK197.out (by decide)) (fun _ hk => hk.2) (.int .i64 t202)) (fun _ hk => hk.2) (.int .i64 t203)) (fun _ hk => hk.2) (.int .i64 t204)) (fun _ hk => hk.2) (.slice Ao23 t205.length co23)) (fun _ hk => trivial), bes⟩
    ·
     rw [if_neg c17] at H
     have c17b0 : (t200 == 0) = false := beq_eq_false_iff_ne.mpr c17
     have c17b1 : (t200 != 0) = true := bne_iff_ne.mpr c17
     have H' := Aside0.mk H
     clear H
     go_wp2_with (first | ((with_reducible refine gate_callee (f := 26) rfl ?_); refine goesL_ (some 32) rfl rfl Tryd.func26 (by kernel_rfl) rfl #[.int .u64 x4_1] rfl ga ?_; (with_reducible refine (word_Parts.calls k1 x4_1 t200 t201 _ A16.out).mono ?_); rintro e w' ⟨rfl, ⟨nd, rfl⟩⟩; refine ⟨_, rfl, ?_⟩))
     go_loopg [7, 8] k1 (fun kq v7 v8 w' => ∃ (x7_2 : Int) (x8_2 : Int), v7 = .int .u64 x7_2 ∧ v8 = .int .i64 x8_2 ∧ Aside0 (mat_Matrix_Unit.l2 kq x7_2 x8_2 a0_0 a0_1 a0_2 l0_3 = some (r1, r2, r3, r4, r5)) ∧ Aside0 (kq ≤ k1) ∧ Aside0 (w'.heap[gb196]? = some (.cells #[.int .i64 a0_0, .int .i64 a0_1, .int .i64 a0_2, (.slice A0_3 l0_3.length c0_3)] 25 (0, 0))) ∧ Aside0 (w'.heap[gb197]? = some (.cells #[.int .i64 0, .int .i64 0, .int .i64 0, (.slice none 0 0)] 25 (0, 0))) ∧ Aside0 (Below w.heap.size w w'))
     case atStart => exact ⟨(t200), (t201), (by first | rfl | (simp; done) | (simp [*]; done)), (by first | rfl | (simp; done) | (simp [*]; done)), H', ⟨Nat.le_refl _⟩, ⟨kb BK196⟩, ⟨kb BK197⟩, ⟨bes⟩⟩
     case round =>
      clear H'
      try clear c1
      try clear c2
      try clear p2
      try clear c3
      try clear c4
      try clear c6
      try clear c6b0
      try clear p6
      try clear c7
      try clear c8
      try clear c9
      try clear c9b0
      try clear c13
      try clear c14
      try clear c17
      try clear c17b0
      try clear c17b1
      try clear c19
      try clear hcz14_0
      try clear hcz14_1
      try clear hcz14_2
      try clear hcz14_3
      try clear hcz20_0
      try clear hcz20_1
      try clear hcz20_2
      try clear hcz20_3
      try clear hcz22_0
      try clear hcz22_1
      try clear hcz22_2
      try clear hcz22_3
      try clear hcz5_0
      try clear hcz5_1
      try clear hcz5_2
      try clear hcz5_3
      try clear hcz8_0
      try clear hcz8_1
      try clear hcz8_2
      try clear hcz8_3
      try clear hfz14_0
      try clear hfz14_1
      try clear hfz14_2
      try clear hfz14_3
      try clear hfz20_0
      try clear hfz20_1
      try clear hfz20_2
      try clear hfz20_3
      try clear hfz22_0
      try clear hfz22_1
      try clear hfz22_2
      try clear hfz22_3
      try clear hfz5_0
      try clear hfz5_1
      try clear hfz5_2
      try clear hfz5_3
      try clear hfz8_0
      try clear hfz8_1
      try clear hfz8_2
      try clear hfz8_3
      try clear p2
      obtain ⟨x7_2, x8_2, rfl, rfl, HA, HK2, BK196, BK197, HB⟩ := hrel
      cases gk with
      | zero => exact absurd HA.out (by simp [mat_Matrix_Unit.l2])
      | succ k2 =>
       have H := HA.out
       clear HA
       simp only [mat_Matrix_Unit.l2] at H
       by_cases c24 : x7_2 > 1
       ·
        rw [if_pos c24] at H
        have c24b0 : decide (1 < x7_2) = true := decide_eq_true c24
        clear c24
        have H' := Aside0.mk H
        clear H
        go_wp2
        go_roundg k2
        case measure => have := HK1.out; have := HK2.out; omega
        case rel => exact ⟨(x7_2 / 2), (wrap64 (x8_2 + 1)), (by first | rfl | (simp; done) | (simp [*]; done)), (by first | rfl | (simp; done) | (simp [*]; done)), H', ⟨by have := HK1.out; have := HK2.out; omega⟩, ⟨kb BK196⟩, ⟨kb BK197⟩, ⟨bes⟩⟩
       ·
        rw [if_neg c24] at H
        have c24b0 : decide (1 < x7_2) = false := decide_eq_false c24
        clear c24
        obtain ⟨⟨t208, t209, t210, t211, t214⟩, A250, H⟩ := Option.bind_eq_some_iff.mp H
        (try dsimp -simprocs only at H)
        have A25 := Aside0.mk A250
        clear A250
        simp only [Option.some.injEq, Prod.mk.injEq] at H
        obtain ⟨rfl, rfl, rfl, rfl, rfl⟩ := H
        have hnb26 := NB196_197.out
        have hnc26 := NB197_196.out
        have hcz27_0 := bc BK196 0 rfl
        have hcz27_1 := bc BK196 1 rfl
        have hcz27_2 := bc BK196 2 rfl
        have hcz27_3 := bc BK196 3 rfl
        have hfz27_0 := blk_frozen BK196.out 0
        have hfz27_1 := blk_frozen BK196.out 1
        have hfz27_2 := blk_frozen BK196.out 2
        have hfz27_3 := blk_frozen BK196.out 3
        go_wp2_with (first | ((with_reducible refine gate_callee (f := 35) rfl ?_); refine goesL_ (some 49) rfl rfl Tryd.func35 (by kernel_rfl) rfl #[.agg #[.int .i64 a0_0, .int .i64 a0_1, .int .i64 a0_2, .slice A0_3 l0_3.length c0_3], .int .i64 (wrap64 (-x8_2))] rfl ga ?_; (with_reducible refine (mat_Matrix_Scale.calls k2 a0_0 a0_1 a0_2 _ _ l0_3 (wrap64 (-x8_2)) t208 t209 t210 t211 t214 _ ?side1 ?side2 A25.out).mono ?_); (case side1 => repeat (first | exact (Kd.C_below HR0_3.out HB.out) | (with_reducible refine Kd.C_alloc ?_ _) | (with_reducible refine Kd.C_drewN ?_ _) | (with_reducible refine Kd.C_drew ?_))); (case side2 => exact HC0_3.out); rintro e w28 ⟨v212, rfl, ho0, hb⟩; refine ⟨_, rfl, ?_⟩; refine ax4 (Kd.R_lower ho0 (below_size bes)) (bb BK196 hb) (bb BK197 hb) (below_step bes hb) ?_; clear BK196; clear BK197; clear HB; intro HO213 BK196 BK197 HB; (try clear hb); (try clear ho0)) | ((with_reducible refine gate_dst (N := 9) rfl ?_); refine gbox (N := 9) (cs := #[.int .i64 0, .int .i64 0, .int .i64 0, .slice none 0 0]) (t := 25) ?_; intro gb215 hg w29 hbox hb; refine ax11 (Kd.R_below (kr HO213) hb) (bb BK196 hb) (bb BK197 hb) (below_step bes hb) hbox ((ge hg : w.heap.size ≤ gb215)) ((ge hg : w.heap.size ≤ gb215)) (nl hg BK196) (ng hg BK196) (nl hg BK197) (ng hg BK197) ?_; clear HO213; clear BK196; clear BK197; clear HB; intro HO213 BK196 BK197 HB BK215 GW215 GE215 NB196_215 NB215_196 NB197_215 NB215_197; clear hb hbox hg; have hnb30 := NB215_196.out; have hnc30 := NB196_215.out; have hnb31 := NB215_197.out; have hnc31 := NB197_215.out; have hcz32_0 := bc BK215 0 rfl; have hcz32_1 := bc BK215 1 rfl; have hcz32_2 := bc BK215 2 rfl; have hcz32_3 := bc BK215 3 rfl; have hfz32_0 := blk_frozen BK215.out 0; have hfz32_1 := blk_frozen BK215.out 1; have hfz32_2 := blk_frozen BK215.out 2; have hfz32_3 := blk_frozen BK215.out 3; obtain ⟨Ao33, co33, eo33⟩ := Kd.R_slice HO213.out; subst eo33; have hcz34_0 := bc BK197 0 rfl; have hcz34_1 := bc BK197 1 rfl; have hcz34_2 := bc BK197 2 rfl; have hcz34_3 := bc BK197 3 rfl; have hfz34_0 := blk_frozen BK197.out 0; have hfz34_1 := blk_frozen BK197.out 1; have hfz34_2 := blk_frozen BK197.out 2; have hfz34_3 := blk_frozen BK197.out 3))
        refine bodyPost_ret (results_ct rfl _ _ gb197 25 #[.int .i64 t208, .int .i64 t209, .int .i64 t210, .slice Ao33 t211.length co33] (0, 0) _ rfl (by (with_reducible repeat (first | refine blk_drewN ?_ _ | refine blk_drew ?_ | refine blk_alloc ?_ _)); refine blk_put (cs := #[.int .i64 t208, .int .i64 t209, .int .i64 t210, .slice none 0 0]) ?_ 3 _ rfl; (with_reducible repeat (first | refine blk_drewN ?_ _ | refine blk_drew ?_ | refine blk_alloc ?_ _)); refine blk_put (cs := #[.int .i64 t208, .int .i64 t209, .int .i64 0, .slice none 0 0]) ?_ 2 _ rfl; (with_reducible repeat (first | refine blk_drewN ?_ _ | refine blk_drew ?_ | refine blk_alloc ?_ _)); refine blk_put (cs := #[.int .i64 t208, .int .i64 0, .int .i64 0, .slice none 0 0]) ?_ 1 _ rfl; (with_reducible repeat (first | refine blk_drewN ?_ _ | refine blk_drew ?_ | refine blk_alloc ?_ _)); refine blk_put (cs := #[.int .i64 0, .int .i64 0, .int .i64 0, .slice none 0 0]) ?_ 0 _ rfl; (with_reducible repeat (first | refine blk_drewN ?_ _ | refine blk_drew ?_ | refine blk_alloc ?_ _)); refine blk_far ?_ NB197_215.out _; (with_reducible repeat (first | refine blk_drewN ?_ _ | refine blk_drew ?_ | refine blk_alloc ?_ _)); refine blk_far ?_ NB197_215.out _; (with_reducible repeat (first | refine blk_drewN ?_ _ | refine blk_drew ?_ | refine blk_alloc ?_ _)); refine blk_far ?_ NB197_215.out _; (with_reducible repeat (first | refine blk_drewN ?_ _ | refine blk_drew ?_ | refine blk_alloc ?_ _)); refine blk_far ?_ NB197_215.out _; (with_reducible repeat (first | refine blk_drewN ?_ _ | refine blk_drew ?_ | refine blk_alloc ?_ _)); exact BK197.out) Tryd.underlying25 rfl (by kernel_rfl)) rfl ?_
        exact ⟨_, er, by (with_reducible repeat (first | apply Kd.R_alloc | apply Kd.R_drewN | apply Kd.R_drew)); exact Kd.R_mono (Kd.R_far (p := ⟨gb197, 3, none⟩) (Kd.R_far (p := ⟨gb197, 2, none⟩) (Kd.R_far (p := ⟨gb197, 1, none⟩) (Kd.R_far (p := ⟨gb197, 0, none⟩) (Kd.R_far (p := ⟨gb215, 3, none⟩) (Kd.R_far (p := ⟨gb215, 2, none⟩) (Kd.R_far (p := ⟨gb215, 1, none⟩) (Kd.R_far (p := ⟨gb215, 0, none⟩) (Kd.R_types (Kd.R_types HO213.out BK215.out (by decide)) BK197.out (by decide)) (fun _ hk => hk.1.2) (.int .i64 t208)) (fun _ hk => hk.1.2) (.int .i64 t209)) (fun _ hk => hk.1.2) (.int .i64 t210)) (fun _ hk => hk.1.2) (.slice Ao33 t211.length co33)) (fun _ hk => hk.2) (.int .i64 t208)) (fun _ hk => hk.2) (.int .i64 t209)) (fun _ hk => hk.2) (.int .i64 t210)) (fun _ hk => hk.2) (.slice Ao33 t211.length co33)) (fun _ hk => trivial), bes⟩

/-! ### gimballaw09_head: function 5 -/
def gimballaw09_head.f (k : Nat)  : Option (Bool) := (mat_New.f 1 2).bind fun bt216 => ((mat_Matrix_Set.f bt216.1 bt216.2.1 bt216.2.2.1 bt216.2.2.2 0 0 4613937818241073152).bind fun t223 => ((mat_Matrix_Set.f bt216.1 bt216.2.1 bt216.2.2.1 t223 0 1 13840687554816376832).bind fun t224 => ((mat_Matrix_Unit.f k bt216.1 bt216.2.1 bt216.2.2.1 t224).bind fun bt225 => (if bt225.2.2.2.2 = 2 then ((mat_Matrix_At.f bt225.1 bt225.2.1 bt225.2.2.1 bt225.2.2.2.1 0 1).bind fun t233 => (if t233 = 13831680355561635840 then ((mat_Matrix_At.f bt225.1 bt225.2.1 bt225.2.2.1 bt225.2.2.2.1 0 0).bind fun t234 => (some (t234 == 4604930618986332160))) else (some false))) else (some false)))))
theorem gimballaw09_head.mono : ∀ k, LeO (gimballaw09_head.f k ) (gimballaw09_head.f (k + 1) ) := by
 intro  k
 unfold gimballaw09_head.f
 repeat' with_reducible first | apply mat_Matrix_Unit.mono | exact LeO.refl _ | exact LeO.none _ | refine LeO.ite ?_ ?_ | refine LeO.bind ?_ (fun _ => ?_)
set_option maxHeartbeats 8000000 in
set_option maxRecDepth 100000 in
theorem gimballaw09_head.calls (k : Nat)  (r : Bool) (w : World) (h : gimballaw09_head.f k  = some r) :
  Calls Tryd.prog 5 #[] w fun e w' => e = .returned (.bool r) ∧ Below w.heap.size w w' := by
 have hu25 := Tryd.underlying25
 have HB := Aside0.mk (Below.refl w.heap.size w)
 have H : ((mat_New.f 1 2).bind fun bt216 => ((mat_Matrix_Set.f bt216.1 bt216.2.1 bt216.2.2.1 bt216.2.2.2 0 0 4613937818241073152).bind fun t223 => ((mat_Matrix_Set.f bt216.1 bt216.2.1 bt216.2.2.1 t223 0 1 13840687554816376832).bind fun t224 => ((mat_Matrix_Unit.f k bt216.1 bt216.2.1 bt216.2.2.1 t224).bind fun bt225 => (if bt225.2.2.2.2 = 2 then ((mat_Matrix_At.f bt225.1 bt225.2.1 bt225.2.2.1 bt225.2.2.2.1 0 1).bind fun t233 => (if t233 = 13831680355561635840 then ((mat_Matrix_At.f bt225.1 bt225.2.1 bt225.2.2.1 bt225.2.2.2.1 0 0).bind fun t234 => (some (t234 == 4604930618986332160))) else (some false))) else (some false)))))) = some r := h
 clear h
 obtain ⟨⟨t216, t217, t218, t219⟩, A10, H⟩ := Option.bind_eq_some_iff.mp H
 (try dsimp -simprocs only at H)
 have A1 := Aside0.mk A10
 clear A10
 obtain ⟨t223, A20, H⟩ := Option.bind_eq_some_iff.mp H
 (try dsimp -simprocs only at H)
 have A2 := Aside0.mk A20
 clear A20
 obtain ⟨t224, A30, H⟩ := Option.bind_eq_some_iff.mp H
 (try dsimp -simprocs only at H)
 have A3 := Aside0.mk A30
 clear A30
 obtain ⟨⟨t225, t226, t227, t228, t231⟩, A40, H⟩ := Option.bind_eq_some_iff.mp H
 (try dsimp -simprocs only at H)
 have A4 := Aside0.mk A40
 clear A40
 by_cases c5 : t231 = 2
 rotate_left
 ·
  rw [if_neg c5] at H
  have c5b0 : (t231 == 2) = false := beq_eq_false_iff_ne.mpr c5
  have c5b1 : (t231 != 2) = true := bne_iff_ne.mpr c5
  obtain rfl := Option.some.inj H
  go_enter Tryd.func5, Tryd.ntmps5
  go_wp2_with (first | ((with_reducible refine gate_callee (f := 20) rfl ?_); refine goesL_ (some 4) rfl rfl Tryd.func20 (by kernel_rfl) rfl #[.int .i64 1, .int .i64 2] rfl ga ?_; (with_reducible refine (mat_New.calls 1 2 t216 t217 t218 t219 _ A1.out).mono ?_); rintro e w43 ⟨v220, rfl, ho0, hb⟩; refine ⟨_, rfl, ?_⟩; refine ax2 (Kd.R_lower ho0 (below_size bel)) (below_step bel hb) ?_; clear HB; intro HO221 HB; (try clear hb); (try clear ho0)) | ((with_reducible refine gate_dst (N := 1) rfl ?_); refine gbox (N := 1) (cs := #[.int .i64 0, .int .i64 0, .int .i64 0, .slice none 0 0]) (t := 25) ?_; intro gb222 hg w44 hbox hb; refine ax5 (Kd.R_below (kr HO221) hb) (below_step bel hb) hbox ((ge hg : w.heap.size ≤ gb222)) ((ge hg : w.heap.size ≤ gb222)) ?_; clear HO221; clear HB; intro HO221 HB BK222 GW222 GE222; clear hb hbox hg; have hcz45_0 := bc BK222 0 rfl; have hcz45_1 := bc BK222 1 rfl; have hcz45_2 := bc BK222 2 rfl; have hcz45_3 := bc BK222 3 rfl; have hfz45_0 := blk_frozen BK222.out 0; have hfz45_1 := blk_frozen BK222.out 1; have hfz45_2 := blk_frozen BK222.out 2; have hfz45_3 := blk_frozen BK222.out 3; obtain ⟨Ao46, co46, eo46⟩ := Kd.R_slice HO221.out; subst eo46) | ((with_reducible refine gate_store (t := 25) (p := 1) rfl ?_); refine store_event (t := 25) (p := 1) (v := ?vo_w47) (w1 := ((((w44.setCell ⟨gb222, 0, none⟩ (.int .i64 t216)).setCell ⟨gb222, 1, none⟩ (.int .i64 t217)).setCell ⟨gb222, 2, none⟩ (.int .i64 t218)).setCell ⟨gb222, 3, none⟩ (.slice Ao46 t219.length co46))) ?hg ?ho ?hn ?hr ?_; (case ho => rfl); (case hg => rfl); (case hn => rfl); (case hr => first | (go_simp; done) | (go_simp; rfl)); intro w47 hw; have n0_ : Aside0 (Kd.R (Kd.int .u64) 32 w47 w.heap.size (fun _ => True) (.slice Ao46 t219.length co46) t219) := ⟨(by rw [hw]; exact (by (with_reducible repeat (first | apply Kd.R_alloc | apply Kd.R_drewN | apply Kd.R_drew)); exact Kd.R_mono (Kd.R_far (p := ⟨gb222, 3, none⟩) (Kd.R_far (p := ⟨gb222, 2, none⟩) (Kd.R_far (p := ⟨gb222, 1, none⟩) (Kd.R_far (p := ⟨gb222, 0, none⟩) (Kd.R_types HO221.out BK222.out (by decide)) (fun _ hk => hk.2) (.int .i64 t216)) (fun _ hk => hk.2) (.int .i64 t217)) (fun _ hk => hk.2) (.int .i64 t218)) (fun _ hk => hk.2) (.slice Ao46 t219.length co46)) (fun _ hk => trivial)))⟩; have n1_ : Aside0 (w47.heap[gb222]? = some (.cells #[.int .i64 t216, .int .i64 t217, .int .i64 t218, .slice Ao46 t219.length co46] 25 (0, 0))) := ⟨(by rw [hw]; exact (by (with_reducible repeat (first | refine blk_drewN ?_ _ | refine blk_drew ?_ | refine blk_alloc ?_ _)); refine blk_put (cs := #[.int .i64 t216, .int .i64 t217, .int .i64 t218, .slice none 0 0]) ?_ 3 _ rfl; (with_reducible repeat (first | refine blk_drewN ?_ _ | refine blk_drew ?_ | refine blk_alloc ?_ _)); refine blk_put (cs := #[.int .i64 t216, .int .i64 t217, .int .i64 0, .slice none 0 0]) ?_ 2 _ rfl; (with_reducible repeat (first | refine blk_drewN ?_ _ | refine blk_drew ?_ | refine blk_alloc ?_ _)); refine blk_put (cs := #[.int .i64 t216, .int .i64 0, .int .i64 0, .slice none 0 0]) ?_ 1 _ rfl; (with_reducible repeat (first | refine blk_drewN ?_ _ | refine blk_drew ?_ | refine blk_alloc ?_ _)); refine blk_put (cs := #[.int .i64 0, .int .i64 0, .int .i64 0, .slice none 0 0]) ?_ 0 _ rfl; (with_reducible repeat (first | refine blk_drewN ?_ _ | refine blk_drew ?_ | refine blk_alloc ?_ _)); exact BK222.out))⟩; have n2_ : Aside0 (Below w.heap.size w w47) := ⟨(by rw [hw]; exact bes)⟩; clear hw; clear HO221; clear BK222; clear HB; have HO221 := n0_; have BK222 := n1_; have HB := n2_; clear n0_ n1_ n2_; have hcz48_0 := bc BK222 0 rfl; have hcz48_1 := bc BK222 1 rfl; have hcz48_2 := bc BK222 2 rfl; have hcz48_3 := bc BK222 3 rfl; have hfz48_0 := blk_frozen BK222.out 0; have hfz48_1 := blk_frozen BK222.out 1; have hfz48_2 := blk_frozen BK222.out 2; have hfz48_3 := blk_frozen BK222.out 3) | ((with_reducible refine gate_callee (f := 24) rfl ?_); refine goesL_ (some 6) rfl rfl Tryd.func24 (by kernel_rfl) rfl #[.agg #[.int .i64 t216, .int .i64 t217, .int .i64 t218, .slice Ao46 t219.length co46], .int .i64 0, .int .i64 0, .int .u64 4613937818241073152] rfl ga ?_; (with_reducible refine (mat_Matrix_Set.calls t216 t217 t218 (fun k_ => some k_ = (.slice Ao46 t219.length co46 : Value).ownBlock) (.slice Ao46 t219.length co46) t219 0 0 4613937818241073152 t223 w _ ?side1 ?side2 A2.out).mono ?_); (case side1 => repeat (first | (with_reducible first | exact HB.out | apply below_alloc | apply pw_below_drewN | apply below_drew1 | refine below_set ?_ GE222.out) | exact HB.out)); (case side2 => exact Kd.R_tight rfl HO221.out); rintro e w49 ⟨rfl, hy0, hb, hkp⟩; refine ⟨_, rfl, ?_⟩; refine ax3 (Kd.R_reok rfl hy0 (fun k_ e_ => HO221.out.1 k_ e_)) (blk_kept (kb BK222) hkp (fun hs_ => (fun e_ => (Kd.R_ne HO221.out BK222.out (by decide)) e_) hs_)) hb ?_; clear HO221; clear BK222; clear HB; intro HO221 BK222 HB; (try clear hb); (try clear hkp); (try clear hy0); have hcz50_0 := bc BK222 0 rfl; have hcz50_1 := bc BK222 1 rfl; have hcz50_2 := bc BK222 2 rfl; have hcz50_3 := bc BK222 3 rfl; have hfz50_0 := blk_frozen BK222.out 0; have hfz50_1 := blk_frozen BK222.out 1; have hfz50_2 := blk_frozen BK222.out 2; have hfz50_3 := blk_frozen BK222.out 3) | ((with_reducible refine gate_callee (f := 24) rfl ?_); refine goesL_ (some 8) rfl rfl Tryd.func24 (by kernel_rfl) rfl #[.agg #[.int .i64 t216, .int .i64 t217, .int .i64 t218, .slice Ao46 t219.length co46], .int .i64 0, .int .i64 1, .int .u64 13840687554816376832] rfl ga ?_; (with_reducible refine (mat_Matrix_Set.calls t216 t217 t218 (fun k_ => some k_ = (.slice Ao46 t219.length co46 : Value).ownBlock) (.slice Ao46 t219.length co46) t223 0 1 13840687554816376832 t224 w _ ?side1 ?side2 A3.out).mono ?_); (case side1 => repeat (first | (with_reducible first | exact HB.out | apply below_alloc | apply pw_below_drewN | apply below_drew1 | refine below_set ?_ GE222.out) | exact HB.out)); (case side2 => exact Kd.R_tight rfl HO221.out); rintro e w51 ⟨rfl, hy0, hb, hkp⟩; refine ⟨_, rfl, ?_⟩; refine ax3 (Kd.R_reok rfl hy0 (fun k_ e_ => HO221.out.1 k_ e_)) (blk_kept (kb BK222) hkp (fun hs_ => (fun e_ => (Kd.R_ne HO221.out BK222.out (by decide)) e_) hs_)) hb ?_; clear HO221; clear BK222; clear HB; intro HO221 BK222 HB; (try clear hb); (try clear hkp); (try clear hy0); have hcz52_0 := bc BK222 0 rfl; have hcz52_1 := bc BK222 1 rfl; have hcz52_2 := bc BK222 2 rfl; have hcz52_3 := bc BK222 3 rfl; have hfz52_0 := blk_frozen BK222.out 0; have hfz52_1 := blk_frozen BK222.out 1; have hfz52_2 := blk_frozen BK222.out 2; have hfz52_3 := blk_frozen BK222.out 3) | ((with_reducible refine gate_callee (f := 14) rfl ?_); refine goesL_ (some 11) rfl rfl Tryd.func14 (by kernel_rfl) rfl #[.agg #[.int .i64 t216, .int .i64 t217, .int .i64 t218, .slice Ao46 t224.length co46]] rfl (by (try simp only [List.map_toArray, List.map_cons, List.map_nil]); first | done | (rw [show t224.length = t219.length from (Kd.R_reads' HO221.out).1.symm] <;> rfl) | rfl | (simp only [List.length_drop, List.length_take]; rfl)) ?_; (with_reducible refine (mat_Matrix_Unit.calls k t216 t217 t218 _ _ t224 t225 t226 t227 t228 t231 _ ?side1 ?side2 A4.out).mono ?_); (case side1 => exact ks HO221); (case side2 => rw [show t224.length = t219.length from (Kd.R_reads' HO221.out).1.symm]; exact (Kd.R_reads' HO221.out).2.1); rintro e w53 ⟨v229, rfl, ho0, hb⟩; refine ⟨_, rfl, ?_⟩; refine ax4 (Kd.R_elder' (kr HO221) (Kd.R_base ho0) hb) (Kd.R_lower (Kd.R_new' ho0 (Kd.R_lt (kr HO221))) (below_size bes)) (bb BK222 hb) (below_step bes hb) ?_; clear HO221; clear BK222; clear HB; intro HO221 HO230 BK222 HB; (try clear hb); (try clear ho0)) | ((with_reducible refine gate_dst (N := 2) rfl ?_); refine gbox (N := 2) (cs := #[.int .i64 0, .int .i64 0, .int .i64 0, .slice none 0 0]) (t := 25) ?_; intro gb232 hg w54 hbox hb; refine ax9 (Kd.R_below (kr HO221) hb) (Kd.R_below (kr HO230) hb) (bb BK222 hb) (below_step bes hb) hbox ((ge hg : w.heap.size ≤ gb232)) ((ge hg : w.heap.size ≤ gb232)) (nl hg BK222) (ng hg BK222) ?_; clear HO221; clear HO230; clear BK222; clear HB; intro HO221 HO230 BK222 HB BK232 GW232 GE232 NB222_232 NB232_222; clear hb hbox hg; have hnb55 := NB232_222.out; have hnc55 := NB222_232.out; have hcz56_0 := bc BK232 0 rfl; have hcz56_1 := bc BK232 1 rfl; have hcz56_2 := bc BK232 2 rfl; have hcz56_3 := bc BK232 3 rfl; have hfz56_0 := blk_frozen BK232.out 0; have hfz56_1 := blk_frozen BK232.out 1; have hfz56_2 := blk_frozen BK232.out 2; have hfz56_3 := blk_frozen BK232.out 3; obtain ⟨Ao57, co57, eo57⟩ := Kd.R_slice HO230.out; subst eo57))
  go_ret
  exact ⟨er, bes⟩

 rw [if_pos c5] at H
 have c5b0 : (t231 == 2) = true := beq_iff_eq.mpr c5
 have c5b1 : (t231 != 2) = false := bne_eq_false_iff_eq.mpr c5
 clear c5
 obtain ⟨t233, A60, H⟩ := Option.bind_eq_some_iff.mp H
 (try dsimp -simprocs only at H)
 have A6 := Aside0.mk A60
 clear A60
 by_cases c7 : t233 = 13831680355561635840
 rotate_left
 ·
  rw [if_neg c7] at H
  have c7b0 : (t233 == 13831680355561635840) = false := beq_eq_false_iff_ne.mpr c7
  have c7b1 : (t233 != 13831680355561635840) = true := bne_iff_ne.mpr c7
  obtain rfl := Option.some.inj H
  go_enter Tryd.func5, Tryd.ntmps5
  go_wp2_with (first | ((with_reducible refine gate_callee (f := 20) rfl ?_); refine goesL_ (some 4) rfl rfl Tryd.func20 (by kernel_rfl) rfl #[.int .i64 1, .int .i64 2] rfl ga ?_; (with_reducible refine (mat_New.calls 1 2 t216 t217 t218 t219 _ A1.out).mono ?_); rintro e w27 ⟨v220, rfl, ho0, hb⟩; refine ⟨_, rfl, ?_⟩; refine ax2 (Kd.R_lower ho0 (below_size bel)) (below_step bel hb) ?_; clear HB; intro HO221 HB; (try clear hb); (try clear ho0)) | ((with_reducible refine gate_dst (N := 1) rfl ?_); refine gbox (N := 1) (cs := #[.int .i64 0, .int .i64 0, .int .i64 0, .slice none 0 0]) (t := 25) ?_; intro gb222 hg w28 hbox hb; refine ax5 (Kd.R_below (kr HO221) hb) (below_step bel hb) hbox ((ge hg : w.heap.size ≤ gb222)) ((ge hg : w.heap.size ≤ gb222)) ?_; clear HO221; clear HB; intro HO221 HB BK222 GW222 GE222; clear hb hbox hg; have hcz29_0 := bc BK222 0 rfl; have hcz29_1 := bc BK222 1 rfl; have hcz29_2 := bc BK222 2 rfl; have hcz29_3 := bc BK222 3 rfl; have hfz29_0 := blk_frozen BK222.out 0; have hfz29_1 := blk_frozen BK222.out 1; have hfz29_2 := blk_frozen BK222.out 2; have hfz29_3 := blk_frozen BK222.out 3; obtain ⟨Ao30, co30, eo30⟩ := Kd.R_slice HO221.out; subst eo30) | ((with_reducible refine gate_store (t := 25) (p := 1) rfl ?_); refine store_event (t := 25) (p := 1) (v := ?vo_w31) (w1 := ((((w28.setCell ⟨gb222, 0, none⟩ (.int .i64 t216)).setCell ⟨gb222, 1, none⟩ (.int .i64 t217)).setCell ⟨gb222, 2, none⟩ (.int .i64 t218)).setCell ⟨gb222, 3, none⟩ (.slice Ao30 t219.length co30))) ?hg ?ho ?hn ?hr ?_; (case ho => rfl); (case hg => rfl); (case hn => rfl); (case hr => first | (go_simp; done) | (go_simp; rfl)); intro w31 hw; have n0_ : Aside0 (Kd.R (Kd.int .u64) 32 w31 w.heap.size (fun _ => True) (.slice Ao30 t219.length co30) t219) := ⟨(by rw [hw]; exact (by (with_reducible repeat (first | apply Kd.R_alloc | apply Kd.R_drewN | apply Kd.R_drew)); exact Kd.R_mono (Kd.R_far (p := ⟨gb222, 3, none⟩) (Kd.R_far (p := ⟨gb222, 2, none⟩) (Kd.R_far (p := ⟨gb222, 1, none⟩) (Kd.R_far (p := ⟨gb222, 0, none⟩) (Kd.R_types HO221.out BK222.out (by decide)) (fun _ hk => hk.2) (.int .i64 t216)) (fun _ hk => hk.2) (.int .i64 t217)) (fun _ hk => hk.2) (.int .i64 t218)) (fun _ hk => hk.2) (.slice Ao30 t219.length co30)) (fun _ hk => trivial)))⟩; have n1_ : Aside0 (w31.heap[gb222]? = some (.cells #[.int .i64 t216, .int .i64 t217, .int .i64 t218, .slice Ao30 t219.length co30] 25 (0, 0))) := ⟨(by rw [hw]; exact (by (with_reducible repeat (first | refine blk_drewN ?_ _ | refine blk_drew ?_ | refine blk_alloc ?_ _)); refine blk_put (cs := #[.int .i64 t216, .int .i64 t217, .int .i64 t218, .slice none 0 0]) ?_ 3 _ rfl; (with_reducible repeat (first | refine blk_drewN ?_ _ | refine blk_drew ?_ | refine blk_alloc ?_ _)); refine blk_put (cs := #[.int .i64 t216, .int .i64 t217, .int .i64 0, .slice none 0 0]) ?_ 2 _ rfl; (with_reducible repeat (first | refine blk_drewN ?_ _ | refine blk_drew ?_ | refine blk_alloc ?_ _)); refine blk_put (cs := #[.int .i64 t216, .int .i64 0, .int .i64 0, .slice none 0 0]) ?_ 1 _ rfl; (with_reducible repeat (first | refine blk_drewN ?_ _ | refine blk_drew ?_ | refine blk_alloc ?_ _)); refine blk_put (cs := #[.int .i64 0, .int .i64 0, .int .i64 0, .slice none 0 0]) ?_ 0 _ rfl; (with_reducible repeat (first | refine blk_drewN ?_ _ | refine blk_drew ?_ | refine blk_alloc ?_ _)); exact BK222.out))⟩; have n2_ : Aside0 (Below w.heap.size w w31) := ⟨(by rw [hw]; exact bes)⟩; clear hw; clear HO221; clear BK222; clear HB; have HO221 := n0_; have BK222 := n1_; have HB := n2_; clear n0_ n1_ n2_; have hcz32_0 := bc BK222 0 rfl; have hcz32_1 := bc BK222 1 rfl; have hcz32_2 := bc BK222 2 rfl; have hcz32_3 := bc BK222 3 rfl; have hfz32_0 := blk_frozen BK222.out 0; have hfz32_1 := blk_frozen BK222.out 1; have hfz32_2 := blk_frozen BK222.out 2; have hfz32_3 := blk_frozen BK222.out 3) | ((with_reducible refine gate_callee (f := 24) rfl ?_); refine goesL_ (some 6) rfl rfl Tryd.func24 (by kernel_rfl) rfl #[.agg #[.int .i64 t216, .int .i64 t217, .int .i64 t218, .slice Ao30 t219.length co30], .int .i64 0, .int .i64 0, .int .u64 4613937818241073152] rfl ga ?_; (with_reducible refine (mat_Matrix_Set.calls t216 t217 t218 (fun k_ => some k_ = (.slice Ao30 t219.length co30 : Value).ownBlock) (.slice Ao30 t219.length co30) t219 0 0 4613937818241073152 t223 w _ ?side1 ?side2 A2.out).mono ?_); (case side1 => repeat (first | (with_reducible first | exact HB.out | apply below_alloc | apply pw_below_drewN | apply below_drew1 | refine below_set ?_ GE222.out) | exact HB.out)); (case side2 => exact Kd.R_tight rfl HO221.out); rintro e w33 ⟨rfl, hy0, hb, hkp⟩; refine ⟨_, rfl, ?_⟩; refine ax3 (Kd.R_reok rfl hy0 (fun k_ e_ => HO221.out.1 k_ e_)) (blk_kept (kb BK222) hkp (fun hs_ => (fun e_ => (Kd.R_ne HO221.out BK222.out (by decide)) e_) hs_)) hb ?_; clear HO221; clear BK222; clear HB; intro HO221 BK222 HB; (try clear hb); (try clear hkp); (try clear hy0); have hcz34_0 := bc BK222 0 rfl; have hcz34_1 := bc BK222 1 rfl; have hcz34_2 := bc BK222 2 rfl; have hcz34_3 := bc BK222 3 rfl; have hfz34_0 := blk_frozen BK222.out 0; have hfz34_1 := blk_frozen BK222.out 1; have hfz34_2 := blk_frozen BK222.out 2; have hfz34_3 := blk_frozen BK222.out 3) | ((with_reducible refine gate_callee (f := 24) rfl ?_); refine goesL_ (some 8) rfl rfl Tryd.func24 (by kernel_rfl) rfl #[.agg #[.int .i64 t216, .int .i64 t217, .int .i64 t218, .slice Ao30 t219.length co30], .int .i64 0, .int .i64 1, .int .u64 13840687554816376832] rfl ga ?_; (with_reducible refine (mat_Matrix_Set.calls t216 t217 t218 (fun k_ => some k_ = (.slice Ao30 t219.length co30 : Value).ownBlock) (.slice Ao30 t219.length co30) t223 0 1 13840687554816376832 t224 w _ ?side1 ?side2 A3.out).mono ?_); (case side1 => repeat (first | (with_reducible first | exact HB.out | apply below_alloc | apply pw_below_drewN | apply below_drew1 | refine below_set ?_ GE222.out) | exact HB.out)); (case side2 => exact Kd.R_tight rfl HO221.out); rintro e w35 ⟨rfl, hy0, hb, hkp⟩; refine ⟨_, rfl, ?_⟩; refine ax3 (Kd.R_reok rfl hy0 (fun k_ e_ => HO221.out.1 k_ e_)) (blk_kept (kb BK222) hkp (fun hs_ => (fun e_ => (Kd.R_ne HO221.out BK222.out (by decide)) e_) hs_)) hb ?_; clear HO221; clear BK222; clear HB; intro HO221 BK222 HB; (try clear hb); (try clear hkp); (try clear hy0); have hcz36_0 := bc BK222 0 rfl; have hcz36_1 := bc BK222 1 rfl; have hcz36_2 := bc BK222 2 rfl; have hcz36_3 := bc BK222 3 rfl; have hfz36_0 := blk_frozen BK222.out 0; have hfz36_1 := blk_frozen BK222.out 1; have hfz36_2 := blk_frozen BK222.out 2; have hfz36_3 := blk_frozen BK222.out 3) | ((with_reducible refine gate_callee (f := 14) rfl ?_); refine goesL_ (some 11) rfl rfl Tryd.func14 (by kernel_rfl) rfl #[.agg #[.int .i64 t216, .int .i64 t217, .int .i64 t218, .slice Ao30 t224.length co30]] rfl (by (try simp only [List.map_toArray, List.map_cons, List.map_nil]); first | done | (rw [show t224.length = t219.length from (Kd.R_reads' HO221.out).1.symm] <;> rfl) | rfl | (simp only [List.length_drop, List.length_take]; rfl)) ?_; (with_reducible refine (mat_Matrix_Unit.calls k t216 t217 t218 _ _ t224 t225 t226 t227 t228 t231 _ ?side1 ?side2 A4.out).mono ?_); (case side1 => exact ks HO221); (case side2 => rw [show t224.length = t219.length from (Kd.R_reads' HO221.out).1.symm]; exact (Kd.R_reads' HO221.out).2.1); rintro e w37 ⟨v229, rfl, ho0, hb⟩; refine ⟨_, rfl, ?_⟩; refine ax4 (Kd.R_elder' (kr HO221) (Kd.R_base ho0) hb) (Kd.R_lower (Kd.R_new' ho0 (Kd.R_lt (kr HO221))) (below_size bes)) (bb BK222 hb) (below_step bes hb) ?_; clear HO221; clear BK222; clear HB; intro HO221 HO230 BK222 HB; (try clear hb); (try clear ho0)) | ((with_reducible refine gate_dst (N := 2) rfl ?_); refine gbox (N := 2) (cs := #[.int .i64 0, .int .i64 0, .int .i64 0, .slice none 0 0]) (t := 25) ?_; intro gb232 hg w38 hbox hb; refine ax9 (Kd.R_below (kr HO221) hb) (Kd.R_below (kr HO230) hb) (bb BK222 hb) (below_step bes hb) hbox ((ge hg : w.heap.size ≤ gb232)) ((ge hg : w.heap.size ≤ gb232)) (nl hg BK222) (ng hg BK222) ?_; clear HO221; clear HO230; clear BK222; clear HB; intro HO221 HO230 BK222 HB BK232 GW232 GE232 NB222_232 NB232_222; clear hb hbox hg; have hnb39 := NB232_222.out; have hnc39 := NB222_232.out; have hcz40_0 := bc BK232 0 rfl; have hcz40_1 := bc BK232 1 rfl; have hcz40_2 := bc BK232 2 rfl; have hcz40_3 := bc BK232 3 rfl; have hfz40_0 := blk_frozen BK232.out 0; have hfz40_1 := blk_frozen BK232.out 1; have hfz40_2 := blk_frozen BK232.out 2; have hfz40_3 := blk_frozen BK232.out 3; obtain ⟨Ao41, co41, eo41⟩ := Kd.R_slice HO230.out; subst eo41) | (go_at_call 8; (with_reducible refine (mat_Matrix_At.calls t225 t226 t227 _ _ t228 0 1 t233 _ ?side1 ?side2 A6.out).mono ?_); (case side1 => refine (Kd.R_reads' (e := 32) (base := w.heap.size) (ok := fun k_ => (True ∧ some k_ ≠ (.slice Ao30 t219.length co30 : Value).ownBlock)) (n := t228.length) (c := co41) ?_).2.2; exact (by (with_reducible repeat (first | apply Kd.R_alloc | apply Kd.R_drewN | apply Kd.R_drew)); exact (Kd.R_mono (Kd.R_far (p := ⟨gb232, 3, none⟩) (Kd.R_far (p := ⟨gb232, 2, none⟩) (Kd.R_far (p := ⟨gb232, 1, none⟩) (Kd.R_far (p := ⟨gb232, 0, none⟩) (Kd.R_types HO230.out BK232.out (by decide)) (fun _ hk => hk.2) (.int .i64 t225)) (fun _ hk => hk.2) (.int .i64 t226)) (fun _ hk => hk.2) (.int .i64 t227)) (fun _ hk => hk.2) (.slice Ao41 t228.length co41)) (fun _ h_ => h_.1)))); (case side2 => exact (Kd.R_reads' HO230.out).2.1); rintro e w42 ⟨rfl, hb⟩; refine ax5 (Kd.R_below (by (with_reducible repeat (first | apply Kd.R_alloc | apply Kd.R_drewN | apply Kd.R_drew)); exact (Kd.R_mono (Kd.R_far (p := ⟨gb232, 3, none⟩) (Kd.R_far (p := ⟨gb232, 2, none⟩) (Kd.R_far (p := ⟨gb232, 1, none⟩) (Kd.R_far (p := ⟨gb232, 0, none⟩) (Kd.R_types HO221.out BK232.out (by decide)) (fun _ hk => hk.2) (.int .i64 t225)) (fun _ hk => hk.2) (.int .i64 t226)) (fun _ hk => hk.2) (.int .i64 t227)) (fun _ hk => hk.2) (.slice Ao41 t228.length co41)) (fun _ h_ => h_.1))) hb) (Kd.R_below (by (with_reducible repeat (first | apply Kd.R_alloc | apply Kd.R_drewN | apply Kd.R_drew)); exact (Kd.R_mono (Kd.R_far (p := ⟨gb232, 3, none⟩) (Kd.R_far (p := ⟨gb232, 2, none⟩) (Kd.R_far (p := ⟨gb232, 1, none⟩) (Kd.R_far (p := ⟨gb232, 0, none⟩) (Kd.R_types HO230.out BK232.out (by decide)) (fun _ hk => hk.2) (.int .i64 t225)) (fun _ hk => hk.2) (.int .i64 t226)) (fun _ hk => hk.2) (.int .i64 t227)) (fun _ hk => hk.2) (.slice Ao41 t228.length co41)) (fun _ h_ => h_.1))) hb) (blk_below (g := gb222) (o := .cells #[.int .i64 t216, .int .i64 t217, .int .i64 t218, .slice Ao30 t219.length co30] 25 (0, 0)) (by (with_reducible repeat (first | refine blk_drewN ?_ _ | refine blk_drew ?_ | refine blk_alloc ?_ _)); refine blk_far ?_ NB222_232.out _; (with_reducible repeat (first | refine blk_drewN ?_ _ | refine blk_drew ?_ | refine blk_alloc ?_ _)); refine blk_far ?_ NB222_232.out _; (with_reducible repeat (first | refine blk_drewN ?_ _ | refine blk_drew ?_ | refine blk_alloc ?_ _)); refine blk_far ?_ NB222_232.out _; (with_reducible repeat (first | refine blk_drewN ?_ _ | refine blk_drew ?_ | refine blk_alloc ?_ _)); refine blk_far ?_ NB222_232.out _; (with_reducible repeat (first | refine blk_drewN ?_ _ | refine blk_drew ?_ | refine blk_alloc ?_ _)); exact BK222.out) hb) (blk_below (g := gb232) (o := .cells #[.int .i64 t225, .int .i64 t226, .int .i64 t227, .slice Ao41 t228.length co41] 25 (0, 0)) (by (with_reducible repeat (first | refine blk_drewN ?_ _ | refine blk_drew ?_ | refine blk_alloc ?_ _)); refine blk_put (cs := #[.int .i64 t225, .int .i64 t226, .int .i64 t227, .slice none 0 0]) ?_ 3 _ rfl; (with_reducible repeat (first | refine blk_drewN ?_ _ | refine blk_drew ?_ | refine blk_alloc ?_ _)); refine blk_put (cs := #[.int .i64 t225, .int .i64 t226, .int .i64 0, .slice none 0 0]) ?_ 2 _ rfl; (with_reducible repeat (first | refine blk_drewN ?_ _ | refine blk_drew ?_ | refine blk_alloc ?_ _)); refine blk_put (cs := #[.int .i64 t225, .int .i64 0, .int .i64 0, .slice none 0 0]) ?_ 1 _ rfl; (with_reducible repeat (first | refine blk_drewN ?_ _ | refine blk_drew ?_ | refine blk_alloc ?_ _)); refine blk_put (cs := #[.int .i64 0, .int .i64 0, .int .i64 0, .slice none 0 0]) ?_ 0 _ rfl; (with_reducible repeat (first | refine blk_drewN ?_ _ | refine blk_drew ?_ | refine blk_alloc ?_ _)); exact BK232.out) hb) (below_step bes hb) ?_; clear HO221; clear HO230; clear BK222; clear BK232; clear HB; intro HO221 HO230 BK222 BK232 HB; (try clear hb)))
  go_ret
  exact ⟨er, bes⟩
 rw [if_pos c7] at H
 have c7b0 : (t233 == 13831680355561635840) = true := beq_iff_eq.mpr c7
 have c7b1 : (t233 != 13831680355561635840) = false := bne_eq_false_iff_eq.mpr c7
 clear c7
 obtain ⟨t234, A80, H⟩ := Option.bind_eq_some_iff.mp H
 (try dsimp -simprocs only at H)
 have A8 := Aside0.mk A80
 clear A80
 obtain rfl := Option.some.inj H
 go_enter Tryd.func5, Tryd.ntmps5
 go_wp2_with (first | ((with_reducible refine gate_callee (f := 20) rfl ?_); refine goesL_ (some 4) rfl rfl Tryd.func20 (by kernel_rfl) rfl #[.int .i64 1, .int .i64 2] rfl ga ?_; (with_reducible refine (mat_New.calls 1 2 t216 t217 t218 t219 _ A1.out).mono ?_); rintro e w9 ⟨v220, rfl, ho0, hb⟩; refine ⟨_, rfl, ?_⟩; refine ax2 (Kd.R_lower ho0 (below_size bel)) (below_step bel hb) ?_; clear HB; intro HO221 HB; (try clear hb); (try clear ho0)) | ((with_reducible refine gate_dst (N := 1) rfl ?_); refine gbox (N := 1) (cs := #[.int .i64 0, .int .i64 0, .int .i64 0, .slice none 0 0]) (t := 25) ?_; intro gb222 hg w10 hbox hb; refine ax5 (Kd.R_below (kr HO221) hb) (below_step bel hb) hbox ((ge hg : w.heap.size ≤ gb222)) ((ge hg : w.heap.size ≤ gb222)) ?_; clear HO221; clear HB; intro HO221 HB BK222 GW222 GE222; clear hb hbox hg; have hcz11_0 := bc BK222 0 rfl; have hcz11_1 := bc BK222 1 rfl; have hcz11_2 := bc BK222 2 rfl; have hcz11_3 := bc BK222 3 rfl; have hfz11_0 := blk_frozen BK222.out 0; have hfz11_1 := blk_frozen BK222.out 1; have hfz11_2 := blk_frozen BK222.out 2; have hfz11_3 := blk_frozen BK222.out 3; obtain ⟨Ao12, co12, eo12⟩ := Kd.R_slice HO221.out; subst eo12) | ((with_reducible refine gate_store (t := 25) (p := 1) rfl ?_); refine store_event (t := 25) (p := 1) (v := ?vo_w13) (w1 := ((((w10.setCell ⟨gb222, 0, none⟩ (.int .i64 t216)).setCell ⟨gb222, 1, none⟩ (.int .i64 t217)).setCell ⟨gb222, 2, none⟩ (.int .i64 t218)).setCell ⟨gb222, 3, none⟩ (.slice Ao12 t219.length co12))) ?hg ?ho ?hn ?hr ?_; (case ho => rfl); (case hg => rfl); (case hn => rfl); (case hr => first | (go_simp; done) | (go_simp; rfl)); intro w13 hw; have n0_ : Aside0 (Kd.R (Kd.int .u64) 32 w13 w.heap.size (fun _ => True) (.slice Ao12 t219.length co12) t219) := ⟨(by rw [hw]; exact (by (with_reducible repeat (first | apply Kd.R_alloc | apply Kd.R_drewN | apply Kd.R_drew)); exact Kd.R_mono (Kd.R_far (p := ⟨gb222, 3, none⟩) (Kd.R_far (p := ⟨gb222, 2, none⟩) (Kd.R_far (p := ⟨gb222, 1, none⟩) (Kd.R_far (p := ⟨gb222, 0, none⟩) (Kd.R_types HO221.out BK222.out (by decide)) (fun _ hk => hk.2) (.int .i64 t216)) (fun _ hk => hk.2) (.int .i64 t217)) (fun _ hk => hk.2) (.int .i64 t218)) (fun _ hk => hk.2) (.slice Ao12 t219.length co12)) (fun _ hk => trivial)))⟩; have n1_ : Aside0 (w13.heap[gb222]? = some (.cells #[.int .i64 t216, .int .i64 t217, .int .i64 t218, .slice Ao12 t219.length co12] 25 (0, 0))) := ⟨(by rw [hw]; exact (by (with_reducible repeat (first | refine blk_drewN ?_ _ | refine blk_drew ?_ | refine blk_alloc ?_ _)); refine blk_put (cs := #[.int .i64 t216, .int .i64 t217, .int .i64 t218, .slice none 0 0]) ?_ 3 _ rfl; (with_reducible repeat (first | refine blk_drewN ?_ _ | refine blk_drew ?_ | refine blk_alloc ?_ _)); refine blk_put (cs := #[.int .i64 t216, .int .i64 t217, .int .i64 0, .slice none 0 0]) ?_ 2 _ rfl; (with_reducible repeat (first | refine blk_drewN ?_ _ | refine blk_drew ?_ | refine blk_alloc ?_ _)); refine blk_put (cs := #[.int .i64 t216, .int .i64 0, .int .i64 0, .slice none 0 0]) ?_ 1 _ rfl; (with_reducible repeat (first | refine blk_drewN ?_ _ | refine blk_drew ?_ | refine blk_alloc ?_ _)); refine blk_put (cs := #[.int .i64 0, .int .i64 0, .int .i64 0, .slice none 0 0]) ?_ 0 _ rfl; (with_reducible repeat (first | refine blk_drewN ?_ _ | refine blk_drew ?_ | refine blk_alloc ?_ _)); exact BK222.out))⟩; have n2_ : Aside0 (Below w.heap.size w w13) := ⟨(by rw [hw]; exact bes)⟩; clear hw; clear HO221; clear BK222; clear HB; have HO221 := n0_; have BK222 := n1_; have HB := n2_; clear n0_ n1_ n2_; have hcz14_0 := bc BK222 0 rfl; have hcz14_1 := bc BK222 1 rfl; have hcz14_2 := bc BK222 2 rfl; have hcz14_3 := bc BK222 3 rfl; have hfz14_0 := blk_frozen BK222.out 0; have hfz14_1 := blk_frozen BK222.out 1; have hfz14_2 := blk_frozen BK222.out 2; have hfz14_3 := blk_frozen BK222.out 3) | ((with_reducible refine gate_callee (f := 24) rfl ?_); refine goesL_ (some 6) rfl rfl Tryd.func24 (by kernel_rfl) rfl #[.agg #[.int .i64 t216, .int .i64 t217, .int .i64 t218, .slice Ao12 t219.length co12], .int .i64 0, .int .i64 0, .int .u64 4613937818241073152] rfl ga ?_; (with_reducible refine (mat_Matrix_Set.calls t216 t217 t218 (fun k_ => some k_ = (.slice Ao12 t219.length co12 : Value).ownBlock) (.slice Ao12 t219.length co12) t219 0 0 4613937818241073152 t223 w _ ?side1 ?side2 A2.out).mono ?_); (case side1 => repeat (first | (with_reducible first | exact HB.out | apply below_alloc | apply pw_below_drewN | apply below_drew1 | refine below_set ?_ GE222.out) | exact HB.out)); (case side2 => exact Kd.R_tight rfl HO221.out); rintro e w15 ⟨rfl, hy0, hb, hkp⟩; refine ⟨_, rfl, ?_⟩; refine ax3 (Kd.R_reok rfl hy0 (fun k_ e_ => HO221.out.1 k_ e_)) (blk_kept (kb BK222) hkp (fun hs_ => (fun e_ => (Kd.R_ne HO221.out BK222.out (by decide)) e_) hs_)) hb ?_; clear HO221; clear BK222; clear HB; intro HO221 BK222 HB; (try clear hb); (try clear hkp); (try clear hy0); have hcz16_0 := bc BK222 0 rfl; have hcz16_1 := bc BK222 1 rfl; have hcz16_2 := bc BK222 2 rfl; have hcz16_3 := bc BK222 3 rfl; have hfz16_0 := blk_frozen BK222.out 0; have hfz16_1 := blk_frozen BK222.out 1; have hfz16_2 := blk_frozen BK222.out 2; have hfz16_3 := blk_frozen BK222.out 3) | ((with_reducible refine gate_callee (f := 24) rfl ?_); refine goesL_ (some 8) rfl rfl Tryd.func24 (by kernel_rfl) rfl #[.agg #[.int .i64 t216, .int .i64 t217, .int .i64 t218, .slice Ao12 t219.length co12], .int .i64 0, .int .i64 1, .int .u64 13840687554816376832] rfl ga ?_; (with_reducible refine (mat_Matrix_Set.calls t216 t217 t218 (fun k_ => some k_ = (.slice Ao12 t219.length co12 : Value).ownBlock) (.slice Ao12 t219.length co12) t223 0 1 13840687554816376832 t224 w _ ?side1 ?side2 A3.out).mono ?_); (case side1 => repeat (first | (with_reducible first | exact HB.out | apply below_alloc | apply pw_below_drewN | apply below_drew1 | refine below_set ?_ GE222.out) | exact HB.out)); (case side2 => exact Kd.R_tight rfl HO221.out); rintro e w17 ⟨rfl, hy0, hb, hkp⟩; refine ⟨_, rfl, ?_⟩; refine ax3 (Kd.R_reok rfl hy0 (fun k_ e_ => HO221.out.1 k_ e_)) (blk_kept (kb BK222) hkp (fun hs_ => (fun e_ => (Kd.R_ne HO221.out BK222.out (by decide)) e_) hs_)) hb ?_; clear HO221; clear BK222; clear HB; intro HO221 BK222 HB; (try clear hb); (try clear hkp); (try clear hy0); have hcz18_0 := bc BK222 0 rfl; have hcz18_1 := bc BK222 1 rfl; have hcz18_2 := bc BK222 2 rfl; have hcz18_3 := bc BK222 3 rfl; have hfz18_0 := blk_frozen BK222.out 0; have hfz18_1 := blk_frozen BK222.out 1; have hfz18_2 := blk_frozen BK222.out 2; have hfz18_3 := blk_frozen BK222.out 3) | ((with_reducible refine gate_callee (f := 14) rfl ?_); refine goesL_ (some 11) rfl rfl Tryd.func14 (by kernel_rfl) rfl #[.agg #[.int .i64 t216, .int .i64 t217, .int .i64 t218, .slice Ao12 t224.length co12]] rfl (by (try simp only [List.map_toArray, List.map_cons, List.map_nil]); first | done | (rw [show t224.length = t219.length from (Kd.R_reads' HO221.out).1.symm] <;> rfl) | rfl | (simp only [List.length_drop, List.length_take]; rfl)) ?_; (with_reducible refine (mat_Matrix_Unit.calls k t216 t217 t218 _ _ t224 t225 t226 t227 t228 t231 _ ?side1 ?side2 A4.out).mono ?_); (case side1 => exact ks HO221); (case side2 => rw [show t224.length = t219.length from (Kd.R_reads' HO221.out).1.symm]; exact (Kd.R_reads' HO221.out).2.1); rintro e w19 ⟨v229, rfl, ho0, hb⟩; refine ⟨_, rfl, ?_⟩; refine ax4 (Kd.R_elder' (kr HO221) (Kd.R_base ho0) hb) (Kd.R_lower (Kd.R_new' ho0 (Kd.R_lt (kr HO221))) (below_size bes)) (bb BK222 hb) (below_step bes hb) ?_; clear HO221; clear BK222; clear HB; intro HO221 HO230 BK222 HB; (try clear hb); (try clear ho0)) | ((with_reducible refine gate_dst (N := 2) rfl ?_); refine gbox (N := 2) (cs := #[.int .i64 0, .int .i64 0, .int .i64 0, .slice none 0 0]) (t := 25) ?_; intro gb232 hg w20 hbox hb; refine ax9 (Kd.R_below (kr HO221) hb) (Kd.R_below (kr HO230) hb) (bb BK222 hb) (below_step bes hb) hbox ((ge hg : w.heap.size ≤ gb232)) ((ge hg : w.heap.size ≤ gb232)) (nl hg BK222) (ng hg BK222) ?_; clear HO221; clear HO230; clear BK222; clear HB; intro HO221 HO230 BK222 HB BK232 GW232 GE232 NB222_232 NB232_222; clear hb hbox hg; have hnb21 := NB232_222.out; have hnc21 := NB222_232.out; have hcz22_0 := bc BK232 0 rfl; have hcz22_1 := bc BK232 1 rfl; have hcz22_2 := bc BK232 2 rfl; have hcz22_3 := bc BK232 3 rfl; have hfz22_0 := blk_frozen BK232.out 0; have hfz22_1 := blk_frozen BK232.out 1; have hfz22_2 := blk_frozen BK232.out 2; have hfz22_3 := blk_frozen BK232.out 3; obtain ⟨Ao23, co23, eo23⟩ := Kd.R_slice HO230.out; subst eo23) | (go_at_call 8; (with_reducible refine (mat_Matrix_At.calls t225 t226 t227 _ _ t228 0 1 t233 _ ?side1 ?side2 A6.out).mono ?_); (case side1 => refine (Kd.R_reads' (e := 32) (base := w.heap.size) (ok := fun k_ => (True ∧ some k_ ≠ (.slice Ao12 t219.length co12 : Value).ownBlock)) (n := t228.length) (c := co23) ?_).2.2; exact (by (with_reducible repeat (first | apply Kd.R_alloc | apply Kd.R_drewN | apply Kd.R_drew)); exact (Kd.R_mono (Kd.R_far (p := ⟨gb232, 3, none⟩) (Kd.R_far (p := ⟨gb232, 2, none⟩) (Kd.R_far (p := ⟨gb232, 1, none⟩) (Kd.R_far (p := ⟨gb232, 0, none⟩) (Kd.R_types HO230.out BK232.out (by decide)) (fun _ hk => hk.2) (.int .i64 t225)) (fun _ hk => hk.2) (.int .i64 t226)) (fun _ hk => hk.2) (.int .i64 t227)) (fun _ hk => hk.2) (.slice Ao23 t228.length co23)) (fun _ h_ => h_.1)))); (case side2 => exact (Kd.R_reads' HO230.out).2.1); rintro e w24 ⟨rfl, hb⟩; refine ax5 (Kd.R_below (by (with_reducible repeat (first | apply Kd.R_alloc | apply Kd.R_drewN | apply Kd.R_drew)); exact (Kd.R_mono (Kd.R_far (p := ⟨gb232, 3, none⟩) (Kd.R_far (p := ⟨gb232, 2, none⟩) (Kd.R_far (p := ⟨gb232, 1, none⟩) (Kd.R_far (p := ⟨gb232, 0, none⟩) (Kd.R_types HO221.out BK232.out (by decide)) (fun _ hk => hk.2) (.int .i64 t225)) (fun _ hk => hk.2) (.int .i64 t226)) (fun _ hk => hk.2) (.int .i64 t227)) (fun _ hk => hk.2) (.slice Ao23 t228.length co23)) (fun _ h_ => h_.1))) hb) (Kd.R_below (by (with_reducible repeat (first | apply Kd.R_alloc | apply Kd.R_drewN | apply Kd.R_drew)); exact (Kd.R_mono (Kd.R_far (p := ⟨gb232, 3, none⟩) (Kd.R_far (p := ⟨gb232, 2, none⟩) (Kd.R_far (p := ⟨gb232, 1, none⟩) (Kd.R_far (p := ⟨gb232, 0, none⟩) (Kd.R_types HO230.out BK232.out (by decide)) (fun _ hk => hk.2) (.int .i64 t225)) (fun _ hk => hk.2) (.int .i64 t226)) (fun _ hk => hk.2) (.int .i64 t227)) (fun _ hk => hk.2) (.slice Ao23 t228.length co23)) (fun _ h_ => h_.1))) hb) (blk_below (g := gb222) (o := .cells #[.int .i64 t216, .int .i64 t217, .int .i64 t218, .slice Ao12 t219.length co12] 25 (0, 0)) (by (with_reducible repeat (first | refine blk_drewN ?_ _ | refine blk_drew ?_ | refine blk_alloc ?_ _)); refine blk_far ?_ NB222_232.out _; (with_reducible repeat (first | refine blk_drewN ?_ _ | refine blk_drew ?_ | refine blk_alloc ?_ _)); refine blk_far ?_ NB222_232.out _; (with_reducible repeat (first | refine blk_drewN ?_ _ | refine blk_drew ?_ | refine blk_alloc ?_ _)); refine blk_far ?_ NB222_232.out _; (with_reducible repeat (first | refine blk_drewN ?_ _ | refine blk_drew ?_ | refine blk_alloc ?_ _)); refine blk_far ?_ NB222_232.out _; (with_reducible repeat (first | refine blk_drewN ?_ _ | refine blk_drew ?_ | refine blk_alloc ?_ _)); exact BK222.out) hb) (blk_below (g := gb232) (o := .cells #[.int .i64 t225, .int .i64 t226, .int .i64 t227, .slice Ao23 t228.length co23] 25 (0, 0)) (by (with_reducible repeat (first | refine blk_drewN ?_ _ | refine blk_drew ?_ | refine blk_alloc ?_ _)); refine blk_put (cs := #[.int .i64 t225, .int .i64 t226, .int .i64 t227, .slice none 0 0]) ?_ 3 _ rfl; (with_reducible repeat (first | refine blk_drewN ?_ _ | refine blk_drew ?_ | refine blk_alloc ?_ _)); refine blk_put (cs := #[.int .i64 t225, .int .i64 t226, .int .i64 0, .slice none 0 0]) ?_ 2 _ rfl; (with_reducible repeat (first | refine blk_drewN ?_ _ | refine blk_drew ?_ | refine blk_alloc ?_ _)); refine blk_put (cs := #[.int .i64 t225, .int .i64 0, .int .i64 0, .slice none 0 0]) ?_ 1 _ rfl; (with_reducible repeat (first | refine blk_drewN ?_ _ | refine blk_drew ?_ | refine blk_alloc ?_ _)); refine blk_put (cs := #[.int .i64 0, .int .i64 0, .int .i64 0, .slice none 0 0]) ?_ 0 _ rfl; (with_reducible repeat (first | refine blk_drewN ?_ _ | refine blk_drew ?_ | refine blk_alloc ?_ _)); exact BK232.out) hb) (below_step bes hb) ?_; clear HO221; clear HO230; clear BK222; clear BK232; clear HB; intro HO221 HO230 BK222 BK232 HB; (try clear hb); have hcz25_0 := bc BK232 0 rfl; have hcz25_1 := bc BK232 1 rfl; have hcz25_2 := bc BK232 2 rfl; have hcz25_3 := bc BK232 3 rfl; have hfz25_0 := blk_frozen BK232.out 0; have hfz25_1 := blk_frozen BK232.out 1; have hfz25_2 := blk_frozen BK232.out 2; have hfz25_3 := blk_frozen BK232.out 3) | (go_at_call 8; (with_reducible refine (mat_Matrix_At.calls t225 t226 t227 _ _ t228 0 0 t234 _ ?side1 ?side2 A8.out).mono ?_); (case side1 => exact ks HO230); (case side2 => exact (Kd.R_reads' HO230.out).2.1); rintro e w26 ⟨rfl, hb⟩; refine ax5 (Kd.R_below (kr HO221) hb) (Kd.R_below (kr HO230) hb) (bb BK222 hb) (bb BK232 hb) (below_step bes hb) ?_; clear HO221; clear HO230; clear BK222; clear BK232; clear HB; intro HO221 HO230 BK222 BK232 HB; (try clear hb)))
 go_ret
 exact ⟨er, bes⟩
/-! ### word_Finite: function 25 -/
def word_Finite.f (a0 : Int) : Option (Bool) := (word_Exp.f a0).bind fun t235 => (some (decide (t235 < 2047)))
set_option maxHeartbeats 8000000 in
set_option maxRecDepth 100000 in
theorem word_Finite.calls (a0 : Int) (r : Bool) (w : World) (h : word_Finite.f a0 = some r) :
  Calls Tryd.prog 25 #[.int .u64 a0] w fun e w' => e = .returned (.bool r) ∧ Drawn0 w w' := by
 have H : ((word_Exp.f a0).bind fun t235 => (some (decide (t235 < 2047)))) = some r := h
 clear h
 obtain ⟨t235, A20, H⟩ := Option.bind_eq_some_iff.mp H
 (try dsimp -simprocs only at H)
 have A2 := Aside0.mk A20
 clear A20
 obtain rfl := Option.some.inj H
 go_enter Tryd.func25, Tryd.ntmps25
 go_wp2_with (first | ((with_reducible refine gate_callee (f := 40) rfl ?_); refine goesL_ (some 4) rfl rfl Tryd.func40 (by kernel_rfl) rfl #[.int .u64 a0] rfl ga ?_; (with_reducible refine (word_Exp.calls a0 t235 _ A2.out).mono ?_); rintro e w' ⟨rfl, ⟨nd, rfl⟩⟩; refine ⟨_, rfl, ?_⟩))
 go_ret
 exact ⟨by first | rfl | (simp; done) | (simp [*]; done), by repeat (first | exact Drawn0.refl _ | apply Drawn0.step)⟩

/-! ### bits_TrailingZeros32: function 42 -/
/-- The library's table stands in the world. -/
def TabW (w : World) : Prop := TabAt 0 Lib.deBruijn32tab w
theorem TabW.drewN {w : World} (h : TabW w) (n : Nat) : TabW (w.drewN n) := h
theorem TabW.drew {w : World} (h : TabW w) : TabW w.drew := h
theorem TabW.below {w W : World} (h : TabW w) (hb : Below w.heap.size w W) : TabW W := fun j hj => (hb.cell (World.block_lt_of_cell? w _ (h j hj))).trans (h j hj)
def bits_TrailingZeros32.f (a0 : Int) : Option (Int) := if 0 ≤ a0 then (if a0 < 4294967296 then (some (Lib.ctz 32 a0.toNat : Int)) else none) else none
theorem bits_TrailingZeros32.zero (w : World) : Calls Tryd.prog 42 #[.int .u32 0] w fun e w' => e = .returned (.int .i64 32) ∧ w' = w := by
 go_enter Tryd.func42, Tryd.ntmps42
 go_wp2
 go_ret
 exact ⟨rfl, rfl⟩
set_option maxHeartbeats 1000000 in
theorem bits_TrailingZeros32.core (x k idx : Nat) (w : World) (hx0 : ((x : Int) == 0) = false)
  (key : bits BinOp.and IntKind.u32 (x : Int) (-(x : Int) % 4294967296) * 125613361 % 4294967296 / 134217728 = (idx : Int))
  (hi : idx < 32) (hk : k < 32) (hcell : w.cell? ⟨0, idx, none⟩ = some (.int .u8 k)) :
  Calls Tryd.prog 42 #[.int .u32 x] w fun e w' => e = .returned (.int .i64 k) ∧ w' = w := by
 go_enter Tryd.func42, Tryd.ntmps42
 go_wp2_with (simp only [key])
 go_ret
 exact ⟨rfl, rfl⟩
theorem bits_TrailingZeros32.calls (a0 : Int) (r : Int) (w : World) (hT : TabW w) (h : bits_TrailingZeros32.f a0 = some r) :
  Calls Tryd.prog 42 #[.int .u32 a0] w fun e w' => e = .returned (.int .i64 r) ∧ Drawn0 w w' := by
 unfold bits_TrailingZeros32.f at h
 by_cases h0 : 0 ≤ a0
 rotate_left
 ·
  rw [if_neg h0] at h; cases h

 by_cases h1 : a0 < 4294967296
 rotate_left
 ·
  rw [if_pos h0, if_neg h1] at h; cases h
 rw [if_pos h0, if_pos h1] at h
 obtain rfl := Option.some.inj h
 obtain ⟨x, rfl⟩ := Int.eq_ofNat_of_zero_le h0
 have hx : x < 4294967296 := by omega
 by_cases hx0 : x = 0
 ·
  subst hx0
  exact (bits_TrailingZeros32.zero w).mono fun e w' ⟨he, hw⟩ => ⟨he, hw ▸ Drawn0.refl _⟩
 ·
  obtain ⟨hlow, hk⟩ := Lib.lowest_bit 32 x hx0 hx
  obtain ⟨hi, htab⟩ := Lib.deBruijn32_at _ hk
  have hcell := hT _ hi
  rw [htab] at hcell
  exact (bits_TrailingZeros32.core x _ _ w (by simp; omega) (tz32_key x _ hx hx0 hlow) hi hk hcell).mono fun e w' ⟨he, hw⟩ => ⟨he, hw ▸ Drawn0.refl _⟩
/-! ### dyad_down: function 43 -/
def dyad_down.l0 : Nat → List Int → Int → List Int → Int → Int → Option (List Int)
 | 0, _, _, _, _, _ => none
 | k + 1, x0, x1, x5, x12, x13 => if x13 < x12 then (if 0 ≤ x13 then (if x13 < (x0.length : Int) then (if 0 ≤ x1 then (if x13 < (x5.length : Int) then ((some (x5.set (x13 : Int).toNat (shr .u32 (rd x0 x13) x1) : List Int)).bind fun y240 => (if (wrap64 (x13 + 1)) < (x0.length : Int) then (if 0 ≤ (wrap64 (x13 + 1)) then (if 0 ≤ (wrap64 (32 - x1)) then (dyad_down.l0 k x0 x1 (y240.set (x13 : Int).toNat (Go.bits .or .u32 (rd y240 x13) (shl .u32 (rd x0 (wrap64 (x13 + 1))) (wrap64 (32 - x1))))) x12 (wrap64 (x13 + 1))) else (none)) else (none)) else (dyad_down.l0 k x0 x1 y240 x12 (wrap64 (x13 + 1))))) else (none)) else (none)) else (none)) else (none)) else (if (x5.length : Int) > 0 then (if 0 ≤ (wrap64 ((x5.length : Int) - 1)) then (if (wrap64 ((x5.length : Int) - 1)) < (x5.length : Int) then (if (rd x5 (wrap64 ((x5.length : Int) - 1))) = 0 then (if (wrap64 ((x5.length : Int) - 1)) ≤ (x5.length : Int) then (some (x5.take ((wrap64 ((x5.length : Int) - 1)) : Int).toNat)) else (none)) else (some x5)) else (none)) else (none)) else (some x5))
def dyad_down.f (k : Nat) (l0 : List Int) (a1 : Int) : Option (List Int) := if 0 ≤ (l0.length : Int) then (if ((l0.length : Int) : Int).toNat ≤ 70368744177664 then (dyad_down.l0 k l0 a1 (List.replicate ((l0.length : Int) : Int).toNat 0) (l0.length : Int) 0) else (none)) else (none)
theorem dyad_down.mono_l : ∀ k, (∀ y0 y1 y2 y3 y4, LeO (dyad_down.l0 k y0 y1 y2 y3 y4) (dyad_down.l0 (k + 1) y0 y1 y2 y3 y4))
 | 0 => fun _ _ _ _ _ r h => by simp [dyad_down.l0] at h
 | k + 1 => by
  have ih0 := dyad_down.mono_l k
  ·
   intro y0 y1 y2 y3 y4
   unfold dyad_down.l0
   repeat' with_reducible first | apply ih0 | exact LeO.refl _ | exact LeO.none _ | refine LeO.ite ?_ ?_ | refine LeO.bind ?_ (fun _ => ?_)
theorem dyad_down.mono : ∀ a0 a1 k, LeO (dyad_down.f k a0 a1) (dyad_down.f (k + 1) a0 a1) := by
 intro a0 a1 k
 have ih0 := dyad_down.mono_l k
 unfold dyad_down.f
 repeat' with_reducible first | apply ih0 | exact LeO.refl _ | exact LeO.none _ | refine LeO.ite ?_ ?_ | refine LeO.bind ?_ (fun _ => ?_)
def dyad_down.T7 : Bool × List (List Nat × List Nat) := (true, [([], []), ([], []), ([0, 1], [0, 1]), ([2], [2]), ([], []), ([], []), ([5], [5]), ([4, 6], [4, 6]), ([7], [7]), ([], []), ([9], [9]), ([8, 10], [8, 10]), ([3, 11], [3, 11]), ([0, 1, 0, 1, 2, 3, 4, 5, 6, 7, 8, 9, 10, 11, 12], [0, 1]), ([13, 12, 0, 1, 2, 3, 4, 5, 6, 7, 8, 9, 10, 11, 12], [12, 13])])
def dyad_down.B7 : List Nat := [0, 0, 3, 7, 0, 0, 32, 112, 240, 0, 512, 2032, 4095, 8191, 16383]
theorem dyad_down.tab7 : rtab .any (opsOf Tryd.f43 7) = dyad_down.T7 := by kernel_rfl
theorem dyad_down.bits7 : waitsOk dyad_down.T7.2 dyad_down.B7 = true := by kernel_rfl
set_option maxHeartbeats 8000000 in
set_option maxRecDepth 100000 in
theorem dyad_down.calls (k : Nat) (A0 : Option Addr) (c0 : Nat) (l0 : List Int) (a1 : Int) (r : List Int) (w : World) (hr0 : Kd.C (Kd.int .u32) w A0 l0.length l0) (hc0 : l0.length ≤ c0) (h : dyad_down.f k l0 a1 = some r) :
  Calls Tryd.prog 43 #[.slice A0 l0.length c0, .int .i64 a1] w fun e w' => ∃ v0_ : Value, e = .returned (v0_) ∧ Kd.V (Kd.int .u32) 56 w' w.heap.size (fun k_ => (w.heap.size ≤ k_)) v0_ r ∧ Below w.heap.size w w' := by
 have HR0 := Aside0.mk hr0
 have HC0 := Aside0.mk hc0
 clear hr0 hc0
 have HB := Aside0.mk (Below.refl w.heap.size w)
 have H : (if 0 ≤ (l0.length : Int) then (if ((l0.length : Int) : Int).toNat ≤ 70368744177664 then (dyad_down.l0 k l0 a1 (List.replicate ((l0.length : Int) : Int).toNat 0) (l0.length : Int) 0) else (none)) else (none)) = some r := h
 clear h
 by_cases c3 : 0 ≤ (l0.length : Int)
 rotate_left
 ·
  rw [if_neg c3] at H
  exact absurd H (by simp)

 rw [if_pos c3] at H
 have c3b0 := eq_true c3
 have c3b1 : decide (0 ≤ (l0.length : Int)) = true := decide_eq_true c3
 clear c3
 by_cases c4 : ((l0.length : Int) : Int).toNat ≤ 70368744177664
 rotate_left
 ·
  rw [if_neg c4] at H
  exact absurd H (by simp)
 rw [if_pos c4] at H
 have c4b0 := eq_true c4
 have c4b1 : decide (((l0.length : Int) : Int).toNat ≤ 70368744177664) = true := decide_eq_true c4
 clear c4
 obtain ⟨y236, hy236⟩ : ∃ y_ : List Int, y_ = (List.replicate ((l0.length : Int) : Int).toNat 0) := ⟨_, rfl⟩
 replace H : (dyad_down.l0 k l0 a1 y236 (l0.length : Int) 0) = some r := by first | (rw [hy236]; with_reducible exact H) | (have H2_ := (Option.bind_some _ _).symm.trans H; rw [hy236]; with_reducible exact H2_) | (have H2_ := (Option.bind_some _ _).symm.trans H; with_reducible exact H2_) | with_reducible exact H | (rw [hy236]; exact H) | exact H
 have Ny236 := Aside0.mk hy236
 clear hy236
 have H' := Aside0.mk H
 clear H
 go_enter Tryd.func43, Tryd.ntmps43
 go_wp2_with (first | ((with_reducible refine gate_dst (N := 10) rfl ?_); refine Kd.R_make (Kd.int .u32) _ 56 rfl (N := 10) rfl 27 _ _ rfl (l0.length : Int) rfl rfl Tryd.underlying27 (.int .u32 0) 4 info56 rfl (by decide) (by omega) 0 (ok := fun _ => True) (okp := fun _ => True) rfl (fun _ hk => hk) trivial (of_decide_eq_true (by first | (with_reducible assumption) | assumption)) (Nat.le_trans (Nat.mul_le_mul_right _ (of_decide_eq_true (by first | (with_reducible assumption) | assumption) : (l0.length : Int).toNat ≤ 70368744177664)) (by omega)) (Below.refl _ _) (Nat.le_refl _) ?_; intro v237 w5 ho6 hb hg_ hnew_; clear hg_ hnew_; (first | rw [← Ny236.out] at ho6 | (simp only [Int.reduceToNat] at ho6; rw [← Ny236.out] at ho6)); refine ax2 (Kd.R_lower (Kd.R_newM (M := fun k_ => (w.heap.size ≤ k_)) ho6 (below_size bel) (fun k_ h_ => h_)) (below_size bel)) (below_step bel hb) ?_; clear HB; intro HO238 HB; clear hb ho6))
 go_loopg [13] k (fun kq v13 w' => ∃ (x5_1 : List Int) (x13_1 : Int), v13 = .int .i64 x13_1 ∧ Aside0 (dyad_down.l0 kq l0 a1 x5_1 (l0.length : Int) x13_1 = some r) ∧ Aside0 (kq ≤ k) ∧ Aside0 (Kd.R (Kd.int .u32) 56 w' w.heap.size (fun k_ => (w.heap.size ≤ k_)) v237 x5_1) ∧ Aside0 (Below w.heap.size w w'))
 case atStart => exact ⟨(y236), (0), (by first | rfl | (simp; done) | (simp [*]; done)), H', ⟨Nat.le_refl _⟩, ⟨by (with_reducible repeat (first | apply Kd.R_alloc | apply Kd.R_drewN | apply Kd.R_drew)); exact Kd.R_mono HO238.out (fun _ hk => hk.1)⟩, ⟨bel⟩⟩
 case round =>
  clear H'
  try clear p2
  try clear c3
  try clear c3b0
  try clear c3b1
  try clear c4
  try clear c4b0
  try clear c4b1
  obtain ⟨x5_1, x13_1, rfl, HA, HK1, HO_5, HB⟩ := hrel
  cases gk with
  | zero => exact absurd HA.out (by simp [dyad_down.l0])
  | succ k1 =>
   have H := HA.out
   clear HA
   simp only [dyad_down.l0] at H
   by_cases c7 : x13_1 < (l0.length : Int)
   ·
    rw [if_pos c7] at H
    have c7b0 : decide (x13_1 < (l0.length : Int)) = true := decide_eq_true c7
    clear c7
    by_cases c8 : 0 ≤ x13_1
    rotate_left
    ·
     rw [if_neg c8] at H
     exact absurd H (by simp)
    rw [if_pos c8] at H
    have c8b0 : decide (0 ≤ x13_1) = true := decide_eq_true c8
    clear c8
    by_cases c9 : x13_1 < (l0.length : Int)
    rotate_left
    ·
     rw [if_neg c9] at H
     exact absurd H (by simp)
    rw [if_pos c9] at H
    have c9b0 : decide (x13_1 < (l0.length : Int)) = true := decide_eq_true c9
    clear c9
    by_cases c10 : 0 ≤ a1
    rotate_left
    ·
     rw [if_neg c10] at H
     exact absurd H (by simp)
    rw [if_pos c10] at H
    have c10b0 := eq_true c10
    have c10b1 : decide (0 ≤ a1) = true := decide_eq_true c10
    clear c10
    obtain ⟨ji11, hji11⟩ : ∃ j_ : Int, (shr .u32 (rd l0 x13_1) a1) = j_ := ⟨_, rfl⟩
    replace H : (if x13_1 < (x5_1.length : Int) then ((some (x5_1.set (x13_1 : Int).toNat (ji11) : List Int)).bind fun y240 => (if (wrap64 (x13_1 + 1)) < (l0.length : Int) then (if 0 ≤ (wrap64 (x13_1 + 1)) then (if 0 ≤ (wrap64 (32 - a1)) then (dyad_down.l0 k1 l0 a1 (y240.set (x13_1 : Int).toNat (Go.bits .or .u32 (rd y240 x13_1) (shl .u32 (rd l0 (wrap64 (x13_1 + 1))) (wrap64 (32 - a1))))) (l0.length : Int) (wrap64 (x13_1 + 1))) else (none)) else (none)) else (dyad_down.l0 k1 l0 a1 y240 (l0.length : Int) (wrap64 (x13_1 + 1))))) else (none)) = some r := by first | (rw [hji11] at H; exact H) | (simp only [hji11] at H ⊢; exact H)
    have hji11_ : ((rd l0 x13_1) / 2 ^ min a1.toNat 32) = ji11 := hji11
    have hji11z : a1 ≤ 32 → ((rd l0 x13_1) / 2 ^ a1.toNat) = ji11 := shr_small hji11
    by_cases c12 : x13_1 < (x5_1.length : Int)
    rotate_left
    ·
     rw [if_neg c12] at H
     exact absurd H (by simp)
    rw [if_pos c12] at H
    have c12b0 : decide (x13_1 < (x5_1.length : Int)) = true := decide_eq_true c12
    clear c12
    obtain ⟨y240, hy240⟩ : ∃ y_ : List Int, y_ = (x5_1.set (x13_1 : Int).toNat (ji11)) := ⟨_, rfl⟩
    replace H : (if (wrap64 (x13_1 + 1)) < (l0.length : Int) then (if 0 ≤ (wrap64 (x13_1 + 1)) then (if 0 ≤ (wrap64 (32 - a1)) then (dyad_down.l0 k1 l0 a1 (y240.set (x13_1 : Int).toNat (Go.bits .or .u32 (rd y240 x13_1) (shl .u32 (rd l0 (wrap64 (x13_1 + 1))) (wrap64 (32 - a1))))) (l0.length : Int) (wrap64 (x13_1 + 1))) else (none)) else (none)) else (dyad_down.l0 k1 l0 a1 y240 (l0.length : Int) (wrap64 (x13_1 + 1)))) = some r := by first | (rw [hy240]; with_reducible exact H) | (have H2_ := (Option.bind_some _ _).symm.trans H; rw [hy240]; with_reducible exact H2_) | (have H2_ := (Option.bind_some _ _).symm.trans H; with_reducible exact H2_) | with_reducible exact H | (rw [hy240]; exact H) | exact H
    have Ny240 := Aside0.mk hy240
    clear hy240
    by_cases c14 : (wrap64 (x13_1 + 1)) < (l0.length : Int)
    ·
     rw [if_pos c14] at H
     have c14b0 : decide ((wrap64 (x13_1 + 1)) < (l0.length : Int)) = true := decide_eq_true c14
     clear c14
     obtain ⟨ji15, hji15⟩ : ∃ j_ : Int, (wrap64 (x13_1 + 1)) = j_ := ⟨_, rfl⟩
     replace H : (if 0 ≤ (ji15) then (if 0 ≤ (wrap64 (32 - a1)) then (dyad_down.l0 k1 l0 a1 (y240.set (x13_1 : Int).toNat (Go.bits .or .u32 (rd y240 x13_1) (shl .u32 (rd l0 (ji15)) (wrap64 (32 - a1))))) (l0.length : Int) ji15) else (none)) else (none)) = some r := by first | (rw [hji15] at H; exact H) | (simp only [hji15] at H ⊢; exact H)
     (try rw [hji15] at c14b0)
     have hji15w : (IntKind.i64.wrap (x13_1 + 1)) = ji15 := (i64_w _).trans hji15
     by_cases c16 : 0 ≤ (ji15)
     rotate_left
     ·
      rw [if_neg c16] at H
      exact absurd H (by simp)
     rw [if_pos c16] at H
     have c16b0 : decide (0 ≤ (ji15)) = true := decide_eq_true c16
     clear c16
     obtain ⟨ji17, hji17⟩ : ∃ j_ : Int, (wrap64 (32 - a1)) = j_ := ⟨_, rfl⟩
     replace H : (if 0 ≤ (ji17) then (dyad_down.l0 k1 l0 a1 (y240.set (x13_1 : Int).toNat (Go.bits .or .u32 (rd y240 x13_1) (shl .u32 (rd l0 (ji15)) (ji17)))) (l0.length : Int) ji15) else (none)) = some r := by first | (rw [hji17] at H; exact H) | (simp only [hji17] at H ⊢; exact H)
     have hji17w : (IntKind.i64.wrap (32 - a1)) = ji17 := (i64_w _).trans hji17
     by_cases c18 : 0 ≤ (ji17)
     rotate_left
     ·
      rw [if_neg c18] at H
      exact absurd H (by simp)
     rw [if_pos c18] at H
     have c18b0 := eq_true c18
     have c18b1 : decide (0 ≤ (ji17)) = true := decide_eq_true c18
     clear c18
     obtain ⟨ji19, hji19⟩ : ∃ j_ : Int, (shl .u32 (rd l0 (ji15)) (ji17)) = j_ := ⟨_, rfl⟩
     replace H : (dyad_down.l0 k1 l0 a1 (y240.set (x13_1 : Int).toNat (Go.bits .or .u32 (rd y240 x13_1) (ji19))) (l0.length : Int) ji15) = some r := by first | (rw [hji19] at H; exact H) | (simp only [hji19] at H ⊢; exact H)
     have hji19_ : (IntKind.u32.wrap ((rd l0 (ji15)) * 2 ^ min (ji17).toNat 32)) = ji19 := hji19
     have hji19z : (ji17) ≤ 32 → (IntKind.u32.wrap ((rd l0 (ji15)) * 2 ^ (ji17).toNat)) = ji19 := shl_small hji19
     obtain ⟨y243, hy243⟩ : ∃ y_ : List Int, y_ = (y240.set (x13_1 : Int).toNat (Go.bits .or .u32 (rd y240 x13_1) (ji19))) := ⟨_, rfl⟩
     replace H : (dyad_down.l0 k1 l0 a1 y243 (l0.length : Int) ji15) = some r := by first | (rw [hy243]; with_reducible exact H) | (have H2_ := (Option.bind_some _ _).symm.trans H; rw [hy243]; with_reducible exact H2_) | (have H2_ := (Option.bind_some _ _).symm.trans H; with_reducible exact H2_) | with_reducible exact H | (rw [hy243]; exact H) | exact H
     have Ny243 := Aside0.mk hy243
     clear hy243
     have H' := Aside0.mk H
     clear H
     have p239 : 0 ≤ (x13_1 : Int) := of_decide_eq_true (by first | (with_reducible assumption) | assumption)
     have q239 : x13_1 < (l0.length : Int) := of_decide_eq_true (by first | (with_reducible assumption) | assumption)
     obtain ⟨ad239, e239, hx239_0⟩ := Kd.at_int HR0.out x13_1 p239 q239
     cases e239
     replace hx239_0 := (HB.out.cell (World.block_lt_of_cell? w _ hx239_0)).trans hx239_0
     replace p239 := eq_true p239
     replace q239 := eq_true q239
     have p13 : 0 ≤ (x13_1 : Int) := of_decide_eq_true (by first | (with_reducible assumption) | assumption)
     have q13 : (x13_1 : Int) < ((x5_1.length : Int) : Int) := of_decide_eq_true (by first | (with_reducible assumption) | assumption)
     obtain ⟨go13, co13, eo13, gb13, gl13, cl13, HG13⟩ := Kd.R_form HO_5.out (by omega)
     (first | cases eo13 | (injection eo13 with ea_ en_ ec_; (first | subst ea_ | (injection ea_ with ea_; subst ea_)); subst ec_; clear en_))
     have GB13 := Aside0.mk gb13
     have GG13 := Aside0.mk HG13
     clear gb13 gl13 HG13
     obtain ⟨hx13_0, hf13_0⟩ := Kd.R_celln 0 HO_5.out (x13_1 : Int) p13 q13
     replace p13 := eq_true p13
     replace q13 := eq_true q13
     have HP21 := Kd.R_putg HO_5.out (x13_1 : Int) ji11
     try go_wp2_with (first | ((with_reducible refine gate_store (t := 56) (p := 24) rfl ?_); refine store_event (t := 56) (p := 24) (v := ?vo_w22) (w1 := (wr.setCell ⟨go13, (x13_1 : Int).toNat, none⟩ (.int .u32 ji11))) ?hg ?ho ?hn ?hr ?_; (case ho => rfl); (case hg => rfl); (case hn => rfl); (case hr => first | (go_simp; done) | (go_simp; rfl)); intro w22 hw; have hg : wr.grownBy w22 (some go13) := (by rw [hw]; exact HP21.2); have hp_ : Kd.R (Kd.int .u32) 56 w22 w.heap.size (fun k_ => (w.heap.size ≤ k_)) (.slice (some ⟨go13, 0, none⟩) x5_1.length co13) y240 := (by rw [hw, Ny240.out]; exact HP21.1); clear HP21; refine ax2 hp_ ((by rw [hw]; exact below_set (HB.out) GB13.out : Below w.heap.size w w22)) ?_; clear HO_5; clear HB; intro HO_5 HB; clear hg hw hp_))
     refine ax2 (Kd.R_drew HO_5.out) (below_drew1 HB.out) ?_
     clear HO_5 HB
     intro HO_5 HB
     have p241 : 0 ≤ (x13_1 : Int) := of_decide_eq_true (by first | (with_reducible assumption) | assumption)
     have q241 : x13_1 < (y240.length : Int) := (by have h_ : (x13_1 : Int) < ((x5_1.length : Int) : Int) := of_decide_eq_true (by first | (with_reducible assumption) | assumption); first | (have e_ := (Kd.R_reads' HO_5.out).1; omega) | simpa only [Ny240.out, List.length_set] using h_)
     have ql241 : ((x13_1 : Int) < ((x5_1.length : Int) : Int)) = True := eq_true (of_decide_eq_true (by first | (with_reducible assumption) | assumption))
     obtain ⟨ad241, e241, hx241_0⟩ := Kd.at_int (Kd.R_reads' HO_5.out).2.2 x13_1 p241 q241
     obtain rfl : (⟨go13, 0, none⟩ : Addr) = ad241 := (by injection e241)
     (first | simp only [add_plain] at hx241_0 | simp only [add_at] at hx241_0 | simp only [Addr.add, Nat.zero_add] at hx241_0 | skip)
     replace p241 := eq_true p241
     replace q241 := eq_true q241
     have p242 : 0 ≤ ((ji15) : Int) := of_decide_eq_true (by first | (with_reducible assumption) | assumption)
     have q242 : (ji15) < (l0.length : Int) := of_decide_eq_true (by first | (with_reducible assumption) | assumption)
     obtain ⟨ad242, e242, hx242_0⟩ := Kd.at_int HR0.out (ji15) p242 q242
     have hw242_0 := hx242_0
     obtain rfl : ad239 = ad242 := (by injection e242)
     replace hx242_0 := (HB.out.cell (World.block_lt_of_cell? w _ hx242_0)).trans hx242_0
     replace p242 := eq_true p242
     replace q242 := eq_true q242
     have p20 : 0 ≤ (x13_1 : Int) := of_decide_eq_true (by first | (with_reducible assumption) | assumption)
     have q20 : (x13_1 : Int) < ((x5_1.length : Int) : Int) := of_decide_eq_true (by first | (with_reducible assumption) | assumption)
     obtain ⟨hx20_0, hf20_0⟩ := Kd.R_celln 0 HO_5.out (x13_1 : Int) p20 q20
     replace p20 := eq_true p20
     replace q20 := eq_true q20
     have HP24 := Kd.R_putn HO_5.out (x13_1 : Int) (Go.bits .or .u32 (rd y240 x13_1) (ji19))
     rw [← Ny243.out] at HP24
     have HQ24 := Aside0.mk HP24
     clear HP24
     refine start_ (n := 15) (S := fun w' => w'.cell? ⟨go13, (x13_1).toNat, none⟩ = some (.int .u32 (rd y240 x13_1)) ∧ w'.cell? (ad239.add ((ji15)).toNat) = some (.int .u32 (rd l0 (ji15)))) (ds := [14]) #[false, false, false, false, false, false, false, false, false, false, false, false, false, false, false] (by kernel_rfl) rfl rfl ⟨hx241_0, ((HB.out.cell (World.block_lt_of_cell? w _ hw242_0)).trans hw242_0)⟩ (fun hHeld => ?_); refine with_tabW dyad_down.tab7 dyad_down.bits7 (fun HT_ HW_ => ?_)
     generalize w22.drew = w23 at HO_5 HB HQ24 hf20_0 hx20_0 hx241_0 hx242_0 hHeld ⊢
     refine pure_ (i := 0) (N := some 30) (v := ?_) (a' := ?_) #[true, false, false, false, false, false, false, false, false, false, false, false, false, false, false] rfl rfl (any_of HT_.out (by kernel_rfl)) (fun _ _ _ h => h) (Or.inl ⟨by rfl, ?_⟩) ?_ ?_
     rotate_left
     ·
      intro w'
      go_simp
      with_reducible rfl
     rotate_left
     ·
      simp only [Act.put, sa0, sa1, sa2, i64_w, i32_w]
      rfl
     refine pure_ (i := 1) (N := some 31) (v := ?_) (a' := ?_) #[true, true, false, false, false, false, false, false, false, false, false, false, false, false, false] rfl rfl (any_of HT_.out (by kernel_rfl)) (fun _ _ _ h => h) (Or.inl ⟨by rfl, ?_⟩) ?_ ?_
     rotate_left
     ·
      intro w'
      go_simp
      with_reducible rfl
     rotate_left
     ·
      simp only [Act.put, sa0, sa1, sa2, i64_w, i32_w]
      rfl
     refine pure_ (i := 2) (N := some 32) (v := ?_) (a' := ?_) #[true, true, true, false, false, false, false, false, false, false, false, false, false, false, false] rfl rfl (any_of HT_.out (by kernel_rfl)) (fun _ _ _ h => h) (Or.inl ⟨by rfl, ?_⟩) ?_ ?_
     rotate_left
     ·
      intro w'
      go_simp
      with_reducible rfl
     rotate_left
     ·
      simp only [Act.put, sa0, sa1, sa2, i64_w, i32_w]
      rfl
     refine pure_ (i := 4) (N := some 34) (v := ?_) (a' := ?_) #[true, true, true, false, true, false, false, false, false, false, false, false, false, false, false] rfl rfl (any_of HT_.out (by kernel_rfl)) (fun _ _ _ h => h) (Or.inl ⟨by rfl, ?_⟩) ?_ ?_
     rotate_left
     ·
      intro w'
      go_simp
      with_reducible rfl
     rotate_left
     ·
      simp only [Act.put, sa0, sa1, sa2, i64_w, i32_w]
      rfl
     refine pure_ (i := 5) (N := some 35) (v := ?_) (a' := ?_) #[true, true, true, false, true, true, false, false, false, false, false, false, false, false, false] rfl rfl (any_of HT_.out (by kernel_rfl)) (fun _ _ _ h => h) (Or.inl ⟨by rfl, ?_⟩) ?_ ?_
     rotate_left
     ·
      intro w'
      go_simp
      with_reducible rfl
     rotate_left
     ·
      simp only [Act.put, sa0, sa1, sa2, i64_w, i32_w]
      rfl
     refine pure_ (i := 6) (N := some 36) (v := ?_) (a' := ?_) #[true, true, true, false, true, true, true, false, false, false, false, false, false, false, false] rfl rfl (any_of HT_.out (by kernel_rfl)) (fun _ _ _ h => h) (Or.inl ⟨by rfl, ?_⟩) ?_ ?_
     rotate_left
     ·
      intro w'
      go_simp
      with_reducible rfl
     rotate_left
     ·
      simp only [Act.put, sa0, sa1, sa2, i64_w, i32_w]
      rfl
     refine pure_ (i := 7) (N := some 37) (v := ?_) (a' := ?_) #[true, true, true, false, true, true, true, true, false, false, false, false, false, false, false] rfl rfl (any_of HT_.out (by kernel_rfl)) (fun _ _ _ h => h) (Or.inl ⟨by rfl, ?_⟩) ?_ ?_
     rotate_left
     ·
      intro w'
      go_simp
      with_reducible rfl
     rotate_left
     ·
      simp only [Act.put, sa0, sa1, sa2, i64_w, i32_w]
      rfl
     refine pure_ (i := 9) (N := some 39) (v := ?_) (a' := ?_) #[true, true, true, false, true, true, true, true, false, true, false, false, false, false, false] rfl rfl (any_of HT_.out (by kernel_rfl)) (fun _ _ _ h => h) (Or.inl ⟨by rfl, ?_⟩) ?_ ?_
     rotate_left
     ·
      intro w'
      go_simp
      with_reducible rfl
     rotate_left
     ·
      simp only [Act.put, sa0, sa1, sa2, i64_w, i32_w]
      rfl
     refine pure_ (i := 10) (N := some 40) (v := ?_) (a' := ?_) #[true, true, true, false, true, true, true, true, false, true, true, false, false, false, false] rfl rfl (any_of HT_.out (by kernel_rfl)) (fun _ _ _ h => h) (Or.inl ⟨by rfl, ?_⟩) ?_ ?_
     rotate_left
     ·
      intro w'
      go_simp
      with_reducible rfl
     rotate_left
     ·
      simp only [Act.put, sa0, sa1, sa2, i64_w, i32_w]
      rfl
     refine take_ (i := 3) (N := some 33) (v := ?_) (a' := ?_) #[true, true, true, true, true, true, true, true, false, true, true, false, false, false, false] rfl rfl (take_ofW HT_.out HW_.out (by kernel_rfl)) (fun _ _ _ h => h) (Or.inl ⟨by rfl, ?_⟩) hHeld ?_ ?_
     rotate_left
     ·
      rintro w' ⟨s0, s1⟩
      go_simp
      with_reducible rfl
     rotate_left
     ·
      simp only [Act.put, sa0, sa1, sa2, i64_w, i32_w]
      rfl
     refine take_ (i := 8) (N := some 38) (v := ?_) (a' := ?_) #[true, true, true, true, true, true, true, true, true, true, true, false, false, false, false] rfl rfl (take_ofW HT_.out HW_.out (by kernel_rfl)) (fun _ _ _ h => h) (Or.inl ⟨by rfl, ?_⟩) hHeld ?_ ?_
     rotate_left
     ·
      rintro w' ⟨s0, s1⟩
      go_simp
      with_reducible rfl
     rotate_left
     ·
      simp only [Act.put, sa0, sa1, sa2, i64_w, i32_w]
      rfl
     refine pure_ (i := 11) (N := some 41) (v := ?_) (a' := ?_) #[true, true, true, true, true, true, true, true, true, true, true, true, false, false, false] rfl rfl (any_of HT_.out (by kernel_rfl)) (fun _ _ _ h => h) (Or.inl ⟨by rfl, ?_⟩) ?_ ?_
     rotate_left
     ·
      intro w'
      go_simp
      with_reducible rfl
     rotate_left
     ·
      simp only [Act.put, sa0, sa1, sa2, i64_w, i32_w]
      rfl
     refine pure_ (i := 12) (N := some 42) (v := ?_) (a' := ?_) #[true, true, true, true, true, true, true, true, true, true, true, true, true, false, false] rfl rfl (any_of HT_.out (by kernel_rfl)) (fun _ _ _ h => h) (Or.inl ⟨by rfl, ?_⟩) ?_ ?_
     rotate_left
     ·
      intro w'
      go_simp
      with_reducible rfl
     rotate_left
     ·
      simp only [Act.put, sa0, sa1, sa2, i64_w, i32_w]
      rfl
     refine pure_ (i := 13) (N := some 43) (v := ?_) (a' := ?_) #[true, true, true, true, true, true, true, true, true, true, true, true, true, true, false] rfl rfl (any_of HT_.out (by kernel_rfl)) (fun _ _ _ h => h) (Or.inl ⟨by rfl, ?_⟩) ?_ ?_
     rotate_left
     ·
      intro w'
      go_simp
      with_reducible rfl
     rotate_left
     ·
      simp only [Act.put, sa0, sa1, sa2, i64_w, i32_w]
      rfl
     refine last_ (i := 14) (N := none) #[true, true, true, true, true, true, true, true, true, true, true, true, true, true, true] rfl rfl (one_of HT_.out (by kernel_rfl)) (by decide) (fun K hK => ?_)
     refine skip_ (w1 := ?_) (by rfl) rfl ?_ ?_
     rotate_left
     ·
      go_simp
      rfl
     refine hK.out _ _ ?_
     clear hK K
     refine done_ (done_of HT_.out (by kernel_rfl)) ?_
     try go_wp2
     go_roundg k1
     case measure => have := HK1.out; omega
     case rel => exact ⟨(y243), (ji15), (by first | rfl | (simp; done) | (simp only [← hji15] <;> (first | rfl | simp)) | (simp [*]; done)), H', ⟨by have := HK1.out; omega⟩, ⟨kr HQ24⟩, ⟨by repeat (first | (with_reducible first | exact HB.out | apply below_alloc | apply pw_below_drewN | apply below_drew1 | refine below_set ?_ GB13.out) | exact HB.out)⟩⟩
    ·
     rw [if_neg c14] at H
     have c14b0 : decide ((wrap64 (x13_1 + 1)) < (l0.length : Int)) = false := decide_eq_false c14
     clear c14
     have H' := Aside0.mk H
     clear H
     have p239 : 0 ≤ (x13_1 : Int) := of_decide_eq_true (by first | (with_reducible assumption) | assumption)
     have q239 : x13_1 < (l0.length : Int) := of_decide_eq_true (by first | (with_reducible assumption) | assumption)
     obtain ⟨ad239, e239, hx239_0⟩ := Kd.at_int HR0.out x13_1 p239 q239
     cases e239
     replace hx239_0 := (HB.out.cell (World.block_lt_of_cell? w _ hx239_0)).trans hx239_0
     replace p239 := eq_true p239
     replace q239 := eq_true q239
     have p13 : 0 ≤ (x13_1 : Int) := of_decide_eq_true (by first | (with_reducible assumption) | assumption)
     have q13 : (x13_1 : Int) < ((x5_1.length : Int) : Int) := of_decide_eq_true (by first | (with_reducible assumption) | assumption)
     obtain ⟨go13, co13, eo13, gb13, gl13, cl13, HG13⟩ := Kd.R_form HO_5.out (by omega)
     (first | cases eo13 | (injection eo13 with ea_ en_ ec_; (first | subst ea_ | (injection ea_ with ea_; subst ea_)); subst ec_; clear en_))
     have GB13 := Aside0.mk gb13
     have GG13 := Aside0.mk HG13
     clear gb13 gl13 HG13
     obtain ⟨hx13_0, hf13_0⟩ := Kd.R_celln 0 HO_5.out (x13_1 : Int) p13 q13
     replace p13 := eq_true p13
     replace q13 := eq_true q13
     have HP25 := Kd.R_putg HO_5.out (x13_1 : Int) ji11
     go_wp2_with (first | ((with_reducible refine gate_store (t := 56) (p := 24) rfl ?_); refine store_event (t := 56) (p := 24) (v := ?vo_w26) (w1 := (wr.setCell ⟨go13, (x13_1 : Int).toNat, none⟩ (.int .u32 ji11))) ?hg ?ho ?hn ?hr ?_; (case ho => rfl); (case hg => rfl); (case hn => rfl); (case hr => first | (go_simp; done) | (go_simp; rfl)); intro w26 hw; have hg : wr.grownBy w26 (some go13) := (by rw [hw]; exact HP25.2); have hp_ : Kd.R (Kd.int .u32) 56 w26 w.heap.size (fun k_ => (w.heap.size ≤ k_)) (.slice (some ⟨go13, 0, none⟩) x5_1.length co13) y240 := (by rw [hw, Ny240.out]; exact HP25.1); clear HP25; refine ax2 hp_ ((by rw [hw]; exact below_set (HB.out) GB13.out : Below w.heap.size w w26)) ?_; clear HO_5; clear HB; intro HO_5 HB; clear hg hw hp_))
     go_roundg k1
     case measure => have := HK1.out; omega
     case rel => exact ⟨(y240), (wrap64 (x13_1 + 1)), (by first | rfl | (simp; done) | (simp [*]; done)), H', ⟨by have := HK1.out; omega⟩, ⟨kr HO_5⟩, ⟨bel⟩⟩
   ·
    rw [if_neg c7] at H
    have c7b0 : decide (x13_1 < (l0.length : Int)) = false := decide_eq_false c7
    clear c7
    by_cases c27 : (x5_1.length : Int) > 0
    rotate_left
    ·
     rw [if_neg c27] at H
     have c27b0 : decide (0 < (x5_1.length : Int)) = false := decide_eq_false c27
     have c27b1 : decide (0 < x5_1.length) = false := decide_eq_false (by omega)
     clear c27
     obtain rfl := Option.some.inj H
     obtain ⟨Ao37, co37, eo37⟩ := Kd.R_slice HO_5.out
     subst eo37
     go_wp2
     go_ret
     exact ⟨_, er, Kd.R_V (kr HO_5), bel⟩
    rw [if_pos c27] at H
    have c27b0 : decide (0 < (x5_1.length : Int)) = true := decide_eq_true c27
    have c27b1 : decide (0 < x5_1.length) = true := decide_eq_true (by omega)
    clear c27
    obtain ⟨ji28, hji28⟩ : ∃ j_ : Int, (wrap64 ((x5_1.length : Int) - 1)) = j_ := ⟨_, rfl⟩
    replace H : (if 0 ≤ (ji28) then (if (ji28) < (x5_1.length : Int) then (if (rd x5_1 (ji28)) = 0 then (if (ji28) ≤ (x5_1.length : Int) then (some (x5_1.take ((ji28) : Int).toNat)) else (none)) else (some x5_1)) else (none)) else (none)) = some r := by first | (rw [hji28] at H; exact H) | (simp only [hji28] at H ⊢; exact H)
    have hji28w : (IntKind.i64.wrap ((x5_1.length : Int) - 1)) = ji28 := (i64_w _).trans hji28
    by_cases c29 : 0 ≤ (ji28)
    rotate_left
    ·
     rw [if_neg c29] at H
     exact absurd H (by simp)
    rw [if_pos c29] at H
    have c29b0 : decide (0 ≤ (ji28)) = true := decide_eq_true c29
    clear c29
    by_cases c30 : (ji28) < (x5_1.length : Int)
    rotate_left
    ·
     rw [if_neg c30] at H
     exact absurd H (by simp)
    rw [if_pos c30] at H
    have c30b0 : decide ((ji28) < (x5_1.length : Int)) = true := decide_eq_true c30
    clear c30
    by_cases c31 : (rd x5_1 (ji28)) = 0
    ·
     rw [if_pos c31] at H
     have c31b0 : ((rd x5_1 (ji28)) == 0) = true := beq_iff_eq.mpr c31
     have c31b1 : ((rd x5_1 (ji28)) != 0) = false := bne_eq_false_iff_eq.mpr c31
     clear c31
     have c32b0 := eq_true (of_decide_eq_true (by first | (with_reducible assumption) | assumption) : 0 ≤ (ji28))
     by_cases c33 : (ji28) ≤ (x5_1.length : Int)
     rotate_left
     ·
      rw [if_neg c33] at H
      exact absurd H (by simp)
     rw [if_pos c33] at H
     have c33b0 := eq_true c33
     have c33b1 : decide ((ji28) ≤ (x5_1.length : Int)) = true := decide_eq_true c33
     clear c33
     obtain ⟨y245, hy245⟩ : ∃ y_ : List Int, y_ = (x5_1.take ((ji28) : Int).toNat) := ⟨_, rfl⟩
     replace H : (some y245) = some r := by first | (rw [hy245]; with_reducible exact H) | (have H2_ := (Option.bind_some _ _).symm.trans H; rw [hy245]; with_reducible exact H2_) | (have H2_ := (Option.bind_some _ _).symm.trans H; with_reducible exact H2_) | with_reducible exact H | (rw [hy245]; exact H) | exact H
     have Ny245 := Aside0.mk hy245
     clear hy245
     obtain rfl := Option.some.inj H
     obtain ⟨Ao34, co34, eo34⟩ := Kd.R_slice HO_5.out
     subst eo34
     have p244 : 0 ≤ ((ji28) : Int) := of_decide_eq_true (by first | (with_reducible assumption) | assumption)
     have q244 : (ji28) < (x5_1.length : Int) := of_decide_eq_true (by first | (with_reducible assumption) | assumption)
     obtain ⟨ad244, e244, hx244_0⟩ := Kd.at_int (Kd.R_reads' HO_5.out).2.2 (ji28) p244 q244
     cases e244
     replace p244 := eq_true p244
     replace q244 := eq_true q244
     have q35 : ((ji28) : Int) ≤ ((x5_1.length : Int) : Int) := of_decide_eq_true (by first | (with_reducible assumption) | assumption)
     obtain ⟨i035, hi035, _, hsz35, _⟩ := info_parts info56
     have hroom35 : x5_1.length ≤ co34 := (Kd.R_reads' HO_5.out).2.1
     have hC35 : Kd.F (Kd.int .u32) _ _ (some ad244) x5_1.length x5_1 := (Kd.V_at (base := w.heap.size) (Kd.R_V HO_5.out)).2.2
     have hcut35 := cut_to3 (P := Tryd.prog) 27 56 .i64 Tryd.underlying27 hi035 (some ad244) x5_1.length co34 (ji28) (of_decide_eq_true (by first | (with_reducible assumption) | assumption)) q35 hroom35
     have hr35 := Kd.F_take (m := ((ji28) : Int).toNat) hC35 (by omega)
     have hy35 : y245.length = ((ji28) : Int).toNat := (by rw [Ny245.out, List.length_take]; omega)
     rw [← Ny245.out] at hr35
     rw [← hy35] at hcut35
     have HO249 := Aside0.mk (show Kd.V (Kd.int .u32) 56 _ w.heap.size _ (.slice (some ad244) y245.length y245.length) y245 from Kd.V_mk (by omega) hr35)
     have HC249 := Aside0.mk (show y245.length ≤ y245.length from by omega)
     clear hr35 hC35 hroom35 hi035 hsz35
     have KY35 := Aside0.mk hy35
     clear hy35
     replace q35 := eq_true q35
     go_wp2
     go_ret
     exact ⟨_, by first | rfl | (simp [errW_none, errW_some] <;> rfl) | (simp only [← hji28]; first | rfl | (simp [errW_none, errW_some] <;> rfl)) | (simp [*, errW_none, errW_some] <;> rfl), kv HO249, bel⟩
    ·
     rw [if_neg c31] at H
     have c31b0 : ((rd x5_1 (ji28)) == 0) = false := beq_eq_false_iff_ne.mpr c31
     have c31b1 : ((rd x5_1 (ji28)) != 0) = true := bne_iff_ne.mpr c31
     obtain rfl := Option.some.inj H
     obtain ⟨Ao36, co36, eo36⟩ := Kd.R_slice HO_5.out
     subst eo36
     have p244 : 0 ≤ ((ji28) : Int) := of_decide_eq_true (by first | (with_reducible assumption) | assumption)
     have q244 : (ji28) < (x5_1.length : Int) := of_decide_eq_true (by first | (with_reducible assumption) | assumption)
     obtain ⟨ad244, e244, hx244_0⟩ := Kd.at_int (Kd.R_reads' HO_5.out).2.2 (ji28) p244 q244
     cases e244
     replace p244 := eq_true p244
     replace q244 := eq_true q244
     go_wp2
     go_ret
     exact ⟨_, by first | rfl | (simp [errW_none, errW_some] <;> rfl) | (simp only [← hji28]; first | rfl | (simp [errW_none, errW_some] <;> rfl)) | (simp [*, errW_none, errW_some] <;> rfl), Kd.R_V (kr HO_5), bel⟩
end Go.Proofs.YtenegelkbfmjkaaDoor.F
