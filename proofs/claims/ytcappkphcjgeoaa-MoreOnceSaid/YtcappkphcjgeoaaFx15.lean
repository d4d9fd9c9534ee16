-- Written by a program of this seat's session (mkprint), out of the translation.
import Derived.Test.YtcappkphcjgeoaaShort
import Derived.Test.YtcappkphcjgeoaaFx0
import Derived.Test.YtcappkphcjgeoaaFx2
import Derived.Test.YtcappkphcjgeoaaFx3
import Derived.Test.YtcappkphcjgeoaaFx4
import Derived.Test.YtcappkphcjgeoaaFx8
import Derived.Test.YtcappkphcjgeoaaFx12
namespace Go.Proofs.Ytcappkphcjgeoaa.F
open Go.RowKit Go.Proofs.YtcappkphcjgeoaaW.PrintWords Go.Proofs.YtcappkphcjgeoaaW.PrintLast Go.Proofs.YtcappkphcjgeoaaW.PrintMore
attribute [local go_sem] max2_int min2_int max_two min_two max_three min_three max_four min_four   -- for this text's walks alone
set_option linter.unusedVariables false
set_option linter.unusedSimpArgs false

/-! ### bits_Sub64: function 68 -/
def sub64Entry_ : Array Value → Sem Value := fun args => do
 let (x, y, b) ← Extern.MathBitsCarry.three "Sub64" args
 pure (Extern.MathBitsCarry.pair ((x + Extern.MathBitsCarry.m64 - y - b) % Extern.MathBitsCarry.m64) (if x < y + b then 1 else 0))
theorem run_sub64_ {P : Program} (x y b : Nat) (hb : b ≤ 1) (w : World) :
  (sub64Entry_ #[.int .u64 x, .int .u64 y, .int .u64 b]).run P w =
   .ok (.tuple #[.int .u64 (((x + 18446744073709551616 - y - b) % 18446744073709551616 : Nat) : Int), .int .u64 ((if x < y + b then 1 else 0 : Nat) : Int)]) w := by
 have : b = 0 ∨ b = 1 := by omega
 rcases this with rfl | rfl <;> rfl
def bits_Sub64.f (a0 a1 a2 : Int) : Option (Int × Int) := if 0 ≤ a0 ∧ 0 ≤ a1 ∧ a1 < 18446744073709551616 ∧ 0 ≤ a2 ∧ a2 ≤ 1 then (some ((a0 - a1 - a2) % 18446744073709551616, if a0 < a1 + a2 then 1 else 0)) else none
theorem bits_Sub64.run (a0 a1 a2 : Int) (r1 r2 : Int) (w : World) (h : bits_Sub64.f a0 a1 a2 = some (r1, r2)) :
  (callFunc 68 #[.int .u64 a0, .int .u64 a1, .int .u64 a2]).run Try.prog w = .ok (.value (.tuple #[.int .u64 r1, .int .u64 r2])) w := by
 unfold bits_Sub64.f at h
 by_cases hc : 0 ≤ a0 ∧ 0 ≤ a1 ∧ a1 < 18446744073709551616 ∧ 0 ≤ a2 ∧ a2 ≤ 1
 ·
  rw [if_pos hc] at h
  obtain ⟨h0, h1, h1', h2, h3⟩ := hc
  simp only [Option.some.injEq, Prod.mk.injEq] at h
  obtain ⟨rfl, rfl⟩ := h
  obtain ⟨x, rfl⟩ := Int.eq_ofNat_of_zero_le h0
  obtain ⟨y, rfl⟩ := Int.eq_ofNat_of_zero_le h1
  obtain ⟨b, rfl⟩ := Int.eq_ofNat_of_zero_le h2
  have e1 : (((x + 18446744073709551616 - y - b) % 18446744073709551616 : Nat) : Int) = ((x : Int) - y - b) % 18446744073709551616 := by omega
  have e2 : ((if x < y + b then 1 else 0 : Nat) : Int) = if (x : Int) < y + b then 1 else 0 := by split <;> split <;> omega
  rw [← e1, ← e2]
  rw [run_callFunc_extern Try.func68 (by kernel_rfl) (by kernel_rfl) (by kernel_rfl) (e := sub64Entry_) (by kernel_rfl), run_sub64_ x y b (by omega)]
  rfl
 ·
  rw [if_neg hc] at h; cases h

/-! ### wide_Wide_Sub: function 58 -/
def wide_Wide_Sub.f (a0_0 : Int) (a0_1 : Int) (a1_0 : Int) (a1_1 : Int) : Option (Int × Int × Bool) := (bits_Sub64.f a0_1 a1_1 0).bind fun bt557 => ((bits_Sub64.f a0_0 a1_0 bt557.2).bind fun bt559 => (some (bt559.1, bt557.1, (bt559.2 == 1))))
set_option maxHeartbeats 8000000 in
set_option maxRecDepth 100000 in
theorem wide_Wide_Sub.calls (a0_0 : Int) (a0_1 : Int) (a1_0 : Int) (a1_1 : Int) (r1 : Int) (r2 : Int) (r3 : Bool) (w : World) (h : wide_Wide_Sub.f a0_0 a0_1 a1_0 a1_1 = some (r1, r2, r3)) :
  Calls Try.prog 58 #[.agg #[.int .u64 a0_0, .int .u64 a0_1], .agg #[.int .u64 a1_0, .int .u64 a1_1]] w fun e w' => e = .returned (.tuple #[.agg #[.int .u64 r1, .int .u64 r2], .bool r3]) ∧ Below w.heap.size w w' := by
 have hu55 := Try.underlying55
 have HB := Aside0.mk (Below.refl w.heap.size w)
 have H : ((bits_Sub64.f a0_1 a1_1 0).bind fun bt557 => ((bits_Sub64.f a0_0 a1_0 bt557.2).bind fun bt559 => (some (bt559.1, bt557.1, (bt559.2 == 1))))) = some (r1, r2, r3) := h
 clear h
 obtain ⟨⟨t557, t558⟩, A30, H⟩ := Option.bind_eq_some_iff.mp H
 (try dsimp -simprocs only at H)
 have A3 := Aside0.mk A30
 clear A30
 obtain ⟨⟨t559, t560⟩, A40, H⟩ := Option.bind_eq_some_iff.mp H
 (try dsimp -simprocs only at H)
 have A4 := Aside0.mk A40
 clear A40
 simp only [Option.some.injEq, Prod.mk.injEq] at H
 obtain ⟨rfl, rfl, rfl⟩ := H
 go_enter Try.func58, Try.ntmps58
 go_wp2_with (first | ((with_reducible refine gate_dst (N := 2) rfl ?_); refine box_event ?hg (N := 2) ?hd (cs := #[.int .u64 a0_0, .int .u64 a0_1]) (t := 55) ?hr ?_; (case hd => rfl); (case hg => rfl); (case hr => first | (go_simp; done) | (go_simp; rfl)); intro gb554 hg w5 hbox hb; have n0_ := Aside0.mk (below_step bel hb); have n1_ := Aside0.mk (hbox); have n2_ := Aside0.mk ((by rw [hg]; exact (below_size bel) : w.heap.size ≤ gb554)); have n3_ := Aside0.mk ((by rw [hg]; exact (below_size bel) : w.heap.size ≤ gb554)); clear HB; have HB := n0_; have BK554 := n1_; have GW554 := n2_; have GE554 := n3_; clear n0_ n1_ n2_ n3_; clear hb hbox hg) | ((with_reducible refine gate_dst (N := 3) rfl ?_); refine box_event ?hg (N := 3) ?hd (cs := #[.int .u64 a1_0, .int .u64 a1_1]) (t := 55) ?hr ?_; (case hd => rfl); (case hg => rfl); (case hr => first | (go_simp; done) | (go_simp; rfl)); intro gb555 hg w6 hbox hb; have n0_ := Aside0.mk (blk_below (g := gb554) (o := .cells #[.int .u64 a0_0, .int .u64 a0_1] 55 (0, 0)) (kb BK554) hb); have n1_ := Aside0.mk (below_step bes hb); have n2_ := Aside0.mk (hbox); have n3_ := Aside0.mk ((by rw [hg]; exact (below_size bes) : w.heap.size ≤ gb555)); have n4_ := Aside0.mk ((by rw [hg]; exact (below_size bes) : w.heap.size ≤ gb555)); have n5_ := Aside0.mk ((by rw [hg]; exact Nat.ne_of_lt (blk_lt (g := gb554) (o := .cells #[.int .u64 a0_0, .int .u64 a0_1] 55 (0, 0)) (kb BK554)) : gb554 ≠ gb555)); have n6_ := Aside0.mk ((by rw [hg]; exact Nat.ne_of_gt (blk_lt (g := gb554) (o := .cells #[.int .u64 a0_0, .int .u64 a0_1] 55 (0, 0)) (kb BK554)) : gb555 ≠ gb554)); clear BK554; clear HB; have BK554 := n0_; have HB := n1_; have BK555 := n2_; have GW555 := n3_; have GE555 := n4_; have NB554_555 := n5_; have NB555_554 := n6_; clear n0_ n1_ n2_ n3_ n4_ n5_ n6_; clear hb hbox hg) | ((with_reducible refine gate_dst (N := 4) rfl ?_); refine box_event ?hg (N := 4) ?hd (cs := #[.int .u64 0, .int .u64 0]) (t := 55) ?hr ?_; (case hd => rfl); (case hg => rfl); (case hr => first | (go_simp; done) | (go_simp; rfl)); intro gb556 hg w7 hbox hb; have n0_ := Aside0.mk (blk_below (g := gb554) (o := .cells #[.int .u64 a0_0, .int .u64 a0_1] 55 (0, 0)) (kb BK554) hb); have n1_ := Aside0.mk (blk_below (g := gb555) (o := .cells #[.int .u64 a1_0, .int .u64 a1_1] 55 (0, 0)) (kb BK555) hb); have n2_ := Aside0.mk (below_step bes hb); have n3_ := Aside0.mk (hbox); have n4_ := Aside0.mk ((by rw [hg]; exact (below_size bes) : w.heap.size ≤ gb556)); have n5_ := Aside0.mk ((by rw [hg]; exact (below_size bes) : w.heap.size ≤ gb556)); have n6_ := Aside0.mk ((by rw [hg]; exact Nat.ne_of_lt (blk_lt (g := gb554) (o := .cells #[.int .u64 a0_0, .int .u64 a0_1] 55 (0, 0)) (kb BK554)) : gb554 ≠ gb556)); have n7_ := Aside0.mk ((by rw [hg]; exact Nat.ne_of_gt (blk_lt (g := gb554) (o := .cells #[.int .u64 a0_0, .int .u64 a0_1] 55 (0, 0)) (kb BK554)) : gb556 ≠ gb554)); have n8_ := Aside0.mk ((by rw [hg]; exact Nat.ne_of_lt (blk_lt (g := gb555) (o := .cells #[.int .u64 a1_0, .int .u64 a1_1] 55 (0, 0)) (kb BK555)) : gb555 ≠ gb556)); have n9_ := Aside0.mk ((by rw [hg]; exact Nat.ne_of_gt (blk_lt (g := gb555) (o := .cells #[.int .u64 a1_0, .int .u64 a1_1] 55 (0, 0)) (kb BK555)) : gb556 ≠ gb555)); clear BK554; clear BK555; clear HB; have BK554 := n0_; have BK555 := n1_; have HB := n2_; have BK556 := n3_; have GW556 := n4_; have GE556 := n5_; have NB554_556 := n6_; have NB556_554 := n7_; have NB555_556 := n8_; have NB556_555 := n9_; clear n0_ n1_ n2_ n3_ n4_ n5_ n6_ n7_ n8_ n9_; clear hb hbox hg; have hnb8 := NB554_555.out; have hnc8 := NB555_554.out; have hnb9 := NB554_556.out; have hnc9 := NB556_554.out; have hcz10_0 : w7.cell? ⟨gb554, 0, none⟩ = some (.int .u64 a0_0) := (blk_cell BK554.out 0).trans rfl; have hcz10_1 : w7.cell? ⟨gb554, 1, none⟩ = some (.int .u64 a0_1) := (blk_cell BK554.out 1).trans rfl; have hfz10_0 := blk_frozen BK554.out 0; have hfz10_1 := blk_frozen BK554.out 1; have hnb11 := NB555_556.out; have hnc11 := NB556_555.out; have hcz12_0 : w7.cell? ⟨gb555, 0, none⟩ = some (.int .u64 a1_0) := (blk_cell BK555.out 0).trans rfl; have hcz12_1 : w7.cell? ⟨gb555, 1, none⟩ = some (.int .u64 a1_1) := (blk_cell BK555.out 1).trans rfl; have hfz12_0 := blk_frozen BK555.out 0; have hfz12_1 := blk_frozen BK555.out 1) | ((with_reducible refine gate_callee (f := 68) rfl ?_); refine goesX_ (some 14) rfl rfl rfl #[.int .u64 a0_1, .int .u64 a1_1, .int .u64 0] (by (try simp only [List.map_toArray, List.map_cons, List.map_nil]); first | done | rfl) _ (bits_Sub64.run a0_1 a1_1 0 t557 t558 _ A3.out) ?_) | ((with_reducible refine gate_callee (f := 68) rfl ?_); refine goesX_ (some 23) rfl rfl rfl #[.int .u64 a0_0, .int .u64 a1_0, .int .u64 t558] (by (try simp only [List.map_toArray, List.map_cons, List.map_nil]); first | done | rfl) _ (bits_Sub64.run a0_0 a1_0 t558 t559 t560 _ A4.out) ?_; have hcz13_0 : w7.cell? ⟨gb556, 0, none⟩ = some (.int .u64 0) := (blk_cell BK556.out 0).trans rfl; have hcz13_1 : w7.cell? ⟨gb556, 1, none⟩ = some (.int .u64 0) := (blk_cell BK556.out 1).trans rfl; have hfz13_0 := blk_frozen BK556.out 0; have hfz13_1 := blk_frozen BK556.out 1))
 refine bodyPost_ret (results_ct rfl _ _ gb556 55 #[.int .u64 t559, .int .u64 t557] (0, 0) _ rfl (by (with_reducible repeat (first | refine blk_drewN ?_ _ | refine blk_drew ?_ | refine blk_alloc ?_ _)); refine blk_put (cs := #[.int .u64 t559, .int .u64 0]) ?_ 1 _ rfl; (with_reducible repeat (first | refine blk_drewN ?_ _ | refine blk_drew ?_ | refine blk_alloc ?_ _)); refine blk_put (cs := #[.int .u64 0, .int .u64 0]) ?_ 0 _ rfl; (with_reducible repeat (first | refine blk_drewN ?_ _ | refine blk_drew ?_ | refine blk_alloc ?_ _)); exact BK556.out) Try.underlying55 rfl (by kernel_rfl)) rfl ?_
 exact ⟨er, bes⟩

/-! ### soft_Add: function 30 -/
mutual
def soft_Add.j0 : Nat → Int → Int → Int → Int → Bool → Option (Int × Int)
 | 0, _, _, _, _, _ => none
 | k + 1, x0, x1, x9, x10, x37 => if x37 = true then (some (9221120237041090560, 16)) else (if x9 = 4 then (some (x0, 0)) else (if x10 = 4 then (some (x1, 0)) else (if x9 = 1 then (soft_Add.j1 k x0 x1 x9 x10 (x10 == 1)) else (soft_Add.j1 k x0 x1 x9 x10 false))))
def soft_Add.j1 : Nat → Int → Int → Int → Int → Bool → Option (Int × Int)
 | 0, _, _, _, _, _ => none
 | k + 1, x0, x1, x9, x10, x57 => if x57 = true then (some (Go.bits .and .u64 x0 x1, 0)) else (if x9 = 1 then (some (x1, 0)) else (if x10 = 1 then (some (x0, 0)) else ((word_Abs.f x0).bind fun t569 => ((word_Abs.f x1).bind fun t570 => (if t569 < t570 then (soft_Add.j2 k x1 x0) else (soft_Add.j2 k x0 x1))))))
def soft_Add.j2 : Nat → Int → Int → Option (Int × Int)
 | 0, _, _ => none
 | k + 1, x0, x1 => (word_Parts.f k x0).bind fun bt571 => ((word_Parts.f k x1).bind fun bt573 => ((wide_Wide_Left.f 0 bt571.1 64).bind fun bt575 => ((wide_Wide_Left.f 0 bt573.1 64).bind fun bt578 => ((wide_Wide_Right.f k bt578.1 bt578.2 (wrap64 (bt571.2 - bt573.2))).bind fun bt580 => ((word_Neg.f x0).bind fun t584 => ((word_Neg.f x1).bind fun t585 => (if (t584 == t585) = true then ((wide_Wide_Add.f bt575.1 bt575.2 bt580.1 bt580.2.1).bind fun bt586 => ((word_Neg.f x0).bind fun t590 => ((round_Round.f k t590 bt586.1 bt586.2.1 (wrap64 (bt571.2 - 64)) bt580.2.2).bind fun bt591 => (some (bt591.1, bt591.2))))) else (if bt580.2.2 = true then ((wide_Wide_Add.f bt580.1 bt580.2.1 0 1).bind fun bt593 => (soft_Add.j3 k x0 bt571.2 bt580.2.2 bt575.1 bt575.2 bt593.1 bt593.2.1)) else (soft_Add.j3 k x0 bt571.2 bt580.2.2 bt575.1 bt575.2 bt580.1 bt580.2.1)))))))))
def soft_Add.j3 : Nat → Int → Int → Bool → Int → Int → Int → Int → Option (Int × Int)
 | 0, _, _, _, _, _, _, _ => none
 | k + 1, x0, x12, x17, x578000, x578001, x584000, x584001 => (wide_Wide_Sub.f x578000 x578001 x584000 x584001).bind fun bt596 => ((wide_Wide_Zero.f bt596.1 bt596.2.1).bind fun t600 => (if t600 = true then (soft_Add.j4 k x0 x12 x17 (!x17) bt596.1 bt596.2.1) else (soft_Add.j4 k x0 x12 x17 false bt596.1 bt596.2.1)))
def soft_Add.j4 : Nat → Int → Int → Bool → Bool → Int → Int → Option (Int × Int)
 | 0, _, _, _, _, _, _ => none
 | k + 1, x0, x12, x17, x143, x600000, x600001 => if x143 = true then (some (0, 0)) else ((word_Neg.f x0).bind fun t601 => ((round_Round.f k t601 x600000 x600001 (wrap64 (x12 - 64)) x17).bind fun bt602 => (some (bt602.1, bt602.2))))
end
def soft_Add.f (k : Nat) (a0 : Int) (a1 : Int) : Option (Int × Int) := (soft_nan.f k (([a0, a1] : List Int))).bind fun bt564 => (if bt564.2.2 = true then (some (bt564.1, bt564.2.1)) else ((word_Kind.f k a0).bind fun t567 => ((word_Kind.f k a1).bind fun t568 => (if t567 = 4 then (if t568 = 4 then (soft_Add.j0 k a0 a1 t567 t568 (a0 != a1)) else (soft_Add.j0 k a0 a1 t567 t568 false)) else (soft_Add.j0 k a0 a1 t567 t568 false)))))
theorem soft_Add.mono_l : ∀ k, (∀ y0 y1 y2 y3 y4, LeO (soft_Add.j0 k y0 y1 y2 y3 y4) (soft_Add.j0 (k + 1) y0 y1 y2 y3 y4)) ∧ (∀ y0 y1 y2 y3 y4, LeO (soft_Add.j1 k y0 y1 y2 y3 y4) (soft_Add.j1 (k + 1) y0 y1 y2 y3 y4)) ∧ (∀ y0 y1, LeO (soft_Add.j2 k y0 y1) (soft_Add.j2 (k + 1) y0 y1)) ∧ (∀ y0 y1 y2 y3 y4 y5 y6, LeO (soft_Add.j3 k y0 y1 y2 y3 y4 y5 y6) (soft_Add.j3 (k + 1) y0 y1 y2 y3 y4 y5 y6)) ∧ (∀ y0 y1 y2 y3 y4 y5, LeO (soft_Add.j4 k y0 y1 y2 y3 y4 y5) (soft_Add.j4 (k + 1) y0 y1 y2 y3 y4 y5))
 | 0 => ⟨fun _ _ _ _ _ r h => by simp [soft_Add.j0] at h, fun _ _ _ _ _ r h => by simp [soft_Add.j1] at h, fun _ _ r h => by simp [soft_Add.j2] at h, fun _ _ _ _ _ _ _ r h => by simp [soft_Add.j3] at h, fun _ _ _ _ _ _ r h => by simp [soft_Add.j4] at h⟩
 | k + 1 => by
  obtain ⟨ih0, ih1, ih2, ih3, ih4⟩ := soft_Add.mono_l k
  refine ⟨?_, ?_, ?_, ?_, ?_⟩
  ·
   intro y0 y1 y2 y3 y4
   unfold soft_Add.j0
   repeat' first
   | (with_reducible exact ih0 _ _ _ _ _)
   | (with_reducible exact ih1 _ _ _ _ _)
   | (with_reducible exact ih2 _ _)
   | (with_reducible exact ih3 _ _ _ _ _ _ _)
   | (with_reducible exact ih4 _ _ _ _ _ _)
   | (with_reducible exact round_Round.mono _ _ _ _ _ _)
   | (with_reducible exact soft_nan.mono _ _)
   | (with_reducible exact wide_Wide_Right.mono _ _ _ _)
   | (with_reducible exact word_Kind.mono _ _)
   | (with_reducible exact word_Parts.mono _ _)
   | (with_reducible exact LeO.refl _)
   | (with_reducible exact LeO.none _)
   | (with_reducible refine LeO.ite ?_ ?_)
   | (with_reducible refine LeO.bind ?_ (fun _ => ?_))
   | exact ih0 _ _ _ _ _
   | exact ih1 _ _ _ _ _
   | exact ih2 _ _
   | exact ih3 _ _ _ _ _ _ _
   | exact ih4 _ _ _ _ _ _
   | exact round_Round.mono _ _ _ _ _ _
   | exact soft_nan.mono _ _
   | exact wide_Wide_Right.mono _ _ _ _
   | exact word_Kind.mono _ _
   | exact word_Parts.mono _ _
   | exact LeO.none _
   | refine LeO.ite ?_ ?_
   | refine LeO.bind ?_ (fun _ => ?_)
  ·
   intro y0 y1 y2 y3 y4
   unfold soft_Add.j1
   repeat' first
   | (with_reducible exact ih0 _ _ _ _ _)
   | (with_reducible exact ih1 _ _ _ _ _)
   | (with_reducible exact ih2 _ _)
   | (with_reducible exact ih3 _ _ _ _ _ _ _)
   | (with_reducible exact ih4 _ _ _ _ _ _)
   | (with_reducible exact round_Round.mono _ _ _ _ _ _)
   | (with_reducible exact soft_nan.mono _ _)
   | (with_reducible exact wide_Wide_Right.mono _ _ _ _)
   | (with_reducible exact word_Kind.mono _ _)
   | (with_reducible exact word_Parts.mono _ _)
   | (with_reducible exact LeO.refl _)
   | (with_reducible exact LeO.none _)
   | (with_reducible refine LeO.ite ?_ ?_)
   | (with_reducible refine LeO.bind ?_ (fun _ => ?_))
   | exact ih0 _ _ _ _ _
   | exact ih1 _ _ _ _ _
   | exact ih2 _ _
   | exact ih3 _ _ _ _ _ _ _
   | exact ih4 _ _ _ _ _ _
   | exact round_Round.mono _ _ _ _ _ _
   | exact soft_nan.mono _ _
   | exact wide_Wide_Right.mono _ _ _ _
   | exact word_Kind.mono _ _
   | exact word_Parts.mono _ _
   | exact LeO.none _
   | refine LeO.ite ?_ ?_
   | refine LeO.bind ?_ (fun _ => ?_)
  ·
   intro y0 y1
   unfold soft_Add.j2
   repeat' first
   | (with_reducible exact ih0 _ _ _ _ _)
   | (with_reducible exact ih1 _ _ _ _ _)
   | (with_reducible exact ih2 _ _)
   | (with_reducible exact ih3 _ _ _ _ _ _ _)
   | (with_reducible exact ih4 _ _ _ _ _ _)
   | (with_reducible exact round_Round.mono _ _ _ _ _ _)
   | (with_reducible exact soft_nan.mono _ _)
   | (with_reducible exact wide_Wide_Right.mono _ _ _ _)
   | (with_reducible exact word_Kind.mono _ _)
   | (with_reducible exact word_Parts.mono _ _)
   | (with_reducible exact LeO.refl _)
   | (with_reducible exact LeO.none _)
   | (with_reducible refine LeO.ite ?_ ?_)
   | (with_reducible refine LeO.bind ?_ (fun _ => ?_))
   | exact ih0 _ _ _ _ _
   | exact ih1 _ _ _ _ _
   | exact ih2 _ _
   | exact ih3 _ _ _ _ _ _ _
   | exact ih4 _ _ _ _ _ _
   | exact round_Round.mono _ _ _ _ _ _
   | exact soft_nan.mono _ _
   | exact wide_Wide_Right.mono _ _ _ _
   | exact word_Kind.mono _ _
   | exact word_Parts.mono _ _
   | exact LeO.none _
   | refine LeO.ite ?_ ?_
   | refine LeO.bind ?_ (fun _ => ?_)
  ·
   intro y0 y1 y2 y3 y4 y5 y6
   unfold soft_Add.j3
   repeat' first
   | (with_reducible exact ih0 _ _ _ _ _)
   | (with_reducible exact ih1 _ _ _ _ _)
   | (with_reducible exact ih2 _ _)
   | (with_reducible exact ih3 _ _ _ _ _ _ _)
   | (with_reducible exact ih4 _ _ _ _ _ _)
   | (with_reducible exact round_Round.mono _ _ _ _ _ _)
   | (with_reducible exact soft_nan.mono _ _)
   | (with_reducible exact wide_Wide_Right.mono _ _ _ _)
   | (with_reducible exact word_Kind.mono _ _)
   | (with_reducible exact word_Parts.mono _ _)
   | (with_reducible exact LeO.refl _)
   | (with_reducible exact LeO.none _)
   | (with_reducible refine LeO.ite ?_ ?_)
   | (with_reducible refine LeO.bind ?_ (fun _ => ?_))
   | exact ih0 _ _ _ _ _
   | exact ih1 _ _ _ _ _
   | exact ih2 _ _
   | exact ih3 _ _ _ _ _ _ _
   | exact ih4 _ _ _ _ _ _
   | exact round_Round.mono _ _ _ _ _ _
   | exact soft_nan.mono _ _
   | exact wide_Wide_Right.mono _ _ _ _
   | exact word_Kind.mono _ _
   | exact word_Parts.mono _ _
   | exact LeO.none _
   | refine LeO.ite ?_ ?_
   | refine LeO.bind ?_ (fun _ => ?_)
  ·
   intro y0 y1 y2 y3 y4 y5
   unfold soft_Add.j4
   repeat' first
   | (with_reducible exact ih0 _ _ _ _ _)
   | (with_reducible exact ih1 _ _ _ _ _)
   | (with_reducible exact ih2 _ _)
   | (with_reducible exact ih3 _ _ _ _ _ _ _)
   | (with_reducible exact ih4 _ _ _ _ _ _)
   | (with_reducible exact round_Round.mono _ _ _ _ _ _)
   | (with_reducible exact soft_nan.mono _ _)
   | (with_reducible exact wide_Wide_Right.mono _ _ _ _)
   | (with_reducible exact word_Kind.mono _ _)
   | (with_reducible exact word_Parts.mono _ _)
   | (with_reducible exact LeO.refl _)
   | (with_reducible exact LeO.none _)
   | (with_reducible refine LeO.ite ?_ ?_)
   | (with_reducible refine LeO.bind ?_ (fun _ => ?_))
   | exact ih0 _ _ _ _ _
   | exact ih1 _ _ _ _ _
   | exact ih2 _ _
   | exact ih3 _ _ _ _ _ _ _
   | exact ih4 _ _ _ _ _ _
   | exact round_Round.mono _ _ _ _ _ _
   | exact soft_nan.mono _ _
   | exact wide_Wide_Right.mono _ _ _ _
   | exact word_Kind.mono _ _
   | exact word_Parts.mono _ _
   | exact LeO.none _
   | refine LeO.ite ?_ ?_
   | refine LeO.bind ?_ (fun _ => ?_)
theorem soft_Add.mono : ∀ a0 a1 k, LeO (soft_Add.f k a0 a1) (soft_Add.f (k + 1) a0 a1) := by
 intro a0 a1 k
 obtain ⟨ih0, ih1, ih2, ih3, ih4⟩ := soft_Add.mono_l k
 unfold soft_Add.f
 repeat' first
   | (with_reducible exact ih0 _ _ _ _ _)
   | (with_reducible exact ih1 _ _ _ _ _)
   | (with_reducible exact ih2 _ _)
   | (with_reducible exact ih3 _ _ _ _ _ _ _)
   | (with_reducible exact ih4 _ _ _ _ _ _)
   | (with_reducible exact round_Round.mono _ _ _ _ _ _)
   | (with_reducible exact soft_nan.mono _ _)
   | (with_reducible exact wide_Wide_Right.mono _ _ _ _)
   | (with_reducible exact word_Kind.mono _ _)
   | (with_reducible exact word_Parts.mono _ _)
   | (with_reducible exact LeO.refl _)
   | (with_reducible exact LeO.none _)
   | (with_reducible refine LeO.ite ?_ ?_)
   | (with_reducible refine LeO.bind ?_ (fun _ => ?_))
   | exact ih0 _ _ _ _ _
   | exact ih1 _ _ _ _ _
   | exact ih2 _ _
   | exact ih3 _ _ _ _ _ _ _
   | exact ih4 _ _ _ _ _ _
   | exact round_Round.mono _ _ _ _ _ _
   | exact soft_nan.mono _ _
   | exact wide_Wide_Right.mono _ _ _ _
   | exact word_Kind.mono _ _
   | exact word_Parts.mono _ _
   | exact LeO.none _
   | refine LeO.ite ?_ ?_
   | refine LeO.bind ?_ (fun _ => ?_)
def soft_Add.T25 : Bool × List (List Nat × List Nat) := (true, [([], []), ([0], [0]), ([], []), ([], []), ([3], [3]), ([], []), ([1, 2, 4, 5, 1], [1, 2, 4, 5]), ([6], [6]), ([6], [6]), ([7, 6, 0, 1, 2, 3, 4, 5, 6, 7, 8], [7]), ([8, 9, 0, 1, 2, 3, 4, 5, 6, 7, 8, 9], [8])])
def soft_Add.B25 : List Nat := [0, 1, 0, 0, 8, 0, 63, 127, 127, 511, 1023]
theorem soft_Add.tab25 : rtab .any (opsOf Try.f30 25) = soft_Add.T25 := by kernel_rfl
theorem soft_Add.bits25 : waitsOk soft_Add.T25.2 soft_Add.B25 = true := by kernel_rfl
def soft_Add.T31 : Bool × List (List Nat × List Nat) := (true, [([], []), ([0], [0]), ([], []), ([], []), ([3], [3]), ([], []), ([1, 2, 4, 5, 1], [1, 2, 4, 5]), ([6], [6]), ([6], [6]), ([7, 6, 0, 1, 2, 3, 4, 5, 6, 7, 8], [7]), ([8, 9, 0, 1, 2, 3, 4, 5, 6, 7, 8, 9], [8])])
def soft_Add.B31 : List Nat := [0, 1, 0, 0, 8, 0, 63, 127, 127, 511, 1023]
theorem soft_Add.tab31 : rtab .any (opsOf Try.f30 31) = soft_Add.T31 := by kernel_rfl
theorem soft_Add.bits31 : waitsOk soft_Add.T31.2 soft_Add.B31 = true := by kernel_rfl
set_option maxHeartbeats 8000000 in
set_option maxRecDepth 100000 in
theorem soft_Add.calls (k : Nat) (a0 : Int) (a1 : Int) (r1 : Int) (r2 : Int) (w : World) (h : soft_Add.f k a0 a1 = some (r1, r2)) :
  Calls Try.prog 30 #[.int .u64 a0, .int .u64 a1] w fun e w' => e = .returned (.tuple #[.int .u64 r1, .int .u8 r2]) ∧ Below w.heap.size w w' := by
 have hu55 := Try.underlying55
 have HB := Aside0.mk (Below.refl w.heap.size w)
 have H : ((soft_nan.f k (([a0, a1] : List Int))).bind fun bt564 => (if bt564.2.2 = true then (some (bt564.1, bt564.2.1)) else ((word_Kind.f k a0).bind fun t567 => ((word_Kind.f k a1).bind fun t568 => (if t567 = 4 then (if t568 = 4 then (soft_Add.j0 k a0 a1 t567 t568 (a0 != a1)) else (soft_Add.j0 k a0 a1 t567 t568 false)) else (soft_Add.j0 k a0 a1 t567 t568 false)))))) = some (r1, r2) := h
 clear h
 obtain ⟨y561, hy561⟩ : ∃ y_ : List Int, y_ = (([a0, a1] : List Int)) := ⟨_, rfl⟩
 replace H : ((soft_nan.f k y561).bind fun bt564 => (if bt564.2.2 = true then (some (bt564.1, bt564.2.1)) else ((word_Kind.f k a0).bind fun t567 => ((word_Kind.f k a1).bind fun t568 => (if t567 = 4 then (if t568 = 4 then (soft_Add.j0 k a0 a1 t567 t568 (a0 != a1)) else (soft_Add.j0 k a0 a1 t567 t568 false)) else (soft_Add.j0 k a0 a1 t567 t568 false)))))) = some (r1, r2) := by first | (rw [hy561]; with_reducible exact H) | (have H2_ := (Option.bind_some _ _).symm.trans H; rw [hy561]; with_reducible exact H2_) | (have H2_ := (Option.bind_some _ _).symm.trans H; with_reducible exact H2_) | with_reducible exact H | (rw [hy561]; exact H) | exact H
 have Ny561 := Aside0.mk hy561
 clear hy561
 obtain ⟨⟨t564, t565, t566⟩, A30, H⟩ := Option.bind_eq_some_iff.mp H
 (try dsimp -simprocs only at H)
 have A3 := Aside0.mk A30
 clear A30
 by_cases c4 : t566 = true
 ·
  subst c4
  rw [if_pos rfl] at H
  simp only [Option.some.injEq, Prod.mk.injEq] at H
  obtain ⟨rfl, rfl⟩ := H
  go_enter Try.func30, Try.ntmps30
  go_wp2_with (first | ((with_reducible refine gate_dst (N := 25) rfl ?_); refine Kd.R_lit (Kd.int .u64) _ 22 ?hg (N := 25) ?hd (xs := ([a0, a1] : List Int)) (inner := [.int .u64 a0, .int .u64 a1]) (ok := fun _ => True) (okp := fun _ => True) ?hr ?hp (fun _ hk => hk) trivial (Below.refl _ _) (Nat.le_refl _) (by simp) ?_; (case hd => rfl); (case hg => rfl); (case hr => first | (go_simp; done) | (go_simp; rfl)); (case hp => exact (Reps.one (show Kd.M (Kd.int .u64) _ _ _ a0 [.int .u64 a0] from rfl) (Reps.one (show Kd.M (Kd.int .u64) _ _ _ a1 [.int .u64 a1] from rfl) (Reps.none _ _)))); intro v562 w5 ho6 hb hg_ hnew_; clear hg_ hnew_; (first | rw [← Ny561.out] at ho6 | (simp only [Int.reduceToNat] at ho6; rw [← Ny561.out] at ho6)); have n0_ := Aside0.mk (Kd.R_lower ho6 (below_size bel)); have n1_ := Aside0.mk (below_step bel hb); clear HB; have HO563 := n0_; have HB := n1_; clear n0_ n1_; clear hb ho6; obtain ⟨Ao7, co7, eo7⟩ := Kd.R_slice HO563.out; subst eo7) | ((with_reducible refine gate_callee (f := 53) rfl ?_); refine goesL_ (some 26) rfl rfl Try.func53 (by kernel_rfl) rfl #[.slice Ao7 y561.length co7] rfl ga ?_; (with_reducible refine (soft_nan.calls k _ _ y561 t564 t565 true _ ?side1 ?side2 A3.out).mono ?_); (case side1 => exact ks HO563); (case side2 => exact (Kd.R_reads' HO563.out).2.1); rintro e w' ⟨rfl, ⟨nd, rfl⟩⟩; refine ⟨_, rfl, ?_⟩))
  go_ret2
  exact ⟨er, bel⟩
 ·
  replace c4 := Bool.eq_false_iff.mpr c4
  subst c4
  rw [if_neg (show ¬ (false = true) by decide)] at H
  obtain ⟨t567, A80, H⟩ := Option.bind_eq_some_iff.mp H
  (try dsimp -simprocs only at H)
  have A8 := Aside0.mk A80
  clear A80
  obtain ⟨t568, A90, H⟩ := Option.bind_eq_some_iff.mp H
  (try dsimp -simprocs only at H)
  have A9 := Aside0.mk A90
  clear A90
  have HC10 := Aside0.mk H
  clear H
  go_enter Try.func30, Try.ntmps30
  go_upto_region 5 with (first | ((with_reducible refine gate_dst (N := 25) rfl ?_); refine Kd.R_lit (Kd.int .u64) _ 22 ?hg (N := 25) ?hd (xs := ([a0, a1] : List Int)) (inner := [.int .u64 a0, .int .u64 a1]) (ok := fun _ => True) (okp := fun _ => True) ?hr ?hp (fun _ hk => hk) trivial (Below.refl _ _) (Nat.le_refl _) (by simp) ?_; (case hd => rfl); (case hg => rfl); (case hr => first | (go_simp; done) | (go_simp; rfl)); (case hp => exact (Reps.one (show Kd.M (Kd.int .u64) _ _ _ a0 [.int .u64 a0] from rfl) (Reps.one (show Kd.M (Kd.int .u64) _ _ _ a1 [.int .u64 a1] from rfl) (Reps.none _ _)))); intro v562 w11 ho12 hb hg_ hnew_; clear hg_ hnew_; (first | rw [← Ny561.out] at ho12 | (simp only [Int.reduceToNat] at ho12; rw [← Ny561.out] at ho12)); have n0_ := Aside0.mk (Kd.R_lower ho12 (below_size bel)); have n1_ := Aside0.mk (below_step bel hb); clear HB; have HO563 := n0_; have HB := n1_; clear n0_ n1_; clear hb ho12; obtain ⟨Ao13, co13, eo13⟩ := Kd.R_slice HO563.out; subst eo13) | ((with_reducible refine gate_callee (f := 53) rfl ?_); refine goesL_ (some 26) rfl rfl Try.func53 (by kernel_rfl) rfl #[.slice Ao13 y561.length co13] rfl ga ?_; (with_reducible refine (soft_nan.calls k _ _ y561 t564 t565 false _ ?side1 ?side2 A3.out).mono ?_); (case side1 => exact ks HO563); (case side2 => exact (Kd.R_reads' HO563.out).2.1); rintro e w' ⟨rfl, ⟨nd, rfl⟩⟩; refine ⟨_, rfl, ?_⟩) | ((with_reducible refine gate_callee (f := 26) rfl ?_); refine goesL_ (some 34) rfl rfl Try.func26 (by kernel_rfl) rfl #[.int .u64 a0] rfl ga ?_; (with_reducible refine (word_Kind.calls k a0 t567 _ A8.out).mono ?_); rintro e w' ⟨rfl, ⟨nd, rfl⟩⟩; refine ⟨_, rfl, ?_⟩) | ((with_reducible refine gate_callee (f := 26) rfl ?_); refine goesL_ (some 36) rfl rfl Try.func26 (by kernel_rfl) rfl #[.int .u64 a1] rfl ga ?_; (with_reducible refine (word_Kind.calls k a1 t568 _ A9.out).mono ?_); rintro e w' ⟨rfl, ⟨nd, rfl⟩⟩; refine ⟨_, rfl, ?_⟩))
  (try simp only [Act.put, List.setIfInBounds_toArray, List.set_cons_zero, List.set_cons_succ])
  go_cut [37] (fun v37 wc => ∃ (kq : Nat) (x37_9 : Bool), v37 = .bool x37_9 ∧ Aside0 (soft_Add.j0 kq a0 a1 t567 t568 x37_9 = some (r1, r2)) ∧ Aside0 (kq ≤ k) ∧ Aside0 (Below w.heap.size w wc))
  case first =>
   have H := HC10.out
   clear HC10
   by_cases c14 : t567 = 4
   ·
    rw [if_pos c14] at H
    have c14b0 : (t567 == 4) = true := beq_iff_eq.mpr c14
    have c14b1 : (t567 != 4) = false := bne_eq_false_iff_eq.mpr c14
    clear c14
    (first | rw [c14b0] | (simp only [i64_w, i32_w]; rw [c14b0]) | skip)
    by_cases c15 : t568 = 4
    ·
     rw [if_pos c15] at H
     have c15b0 : (t568 == 4) = true := beq_iff_eq.mpr c15
     have c15b1 : (t568 != 4) = false := bne_eq_false_iff_eq.mpr c15
     clear c15
     have H' := Aside0.mk H
     clear H
     go_wp2
     go_meet
     case rel => exact ⟨_, ((a0 != a1)), (by first | rfl | (simp; done) | (simp [*]; done)), H', ⟨by first | omega | exact Nat.le_refl _⟩, ⟨bel⟩⟩
    ·
     rw [if_neg c15] at H
     have c15b0 : (t568 == 4) = false := beq_eq_false_iff_ne.mpr c15
     have c15b1 : (t568 != 4) = true := bne_iff_ne.mpr c15
     have H' := Aside0.mk H
     clear H
     go_wp2
     go_meet
     case rel => exact ⟨_, (false), (by first | rfl | (simp; done) | (simp [*]; done)), H', ⟨by first | omega | exact Nat.le_refl _⟩, ⟨bel⟩⟩
   ·
    rw [if_neg c14] at H
    have c14b0 : (t567 == 4) = false := beq_eq_false_iff_ne.mpr c14
    have c14b1 : (t567 != 4) = true := bne_iff_ne.mpr c14
    (first | rw [c14b0] | (simp only [i64_w, i32_w]; rw [c14b0]) | skip)
    have H' := Aside0.mk H
    clear H
    go_wp2
    go_meet
    case rel => exact ⟨_, (false), (by first | rfl | (simp; done) | (simp [*]; done)), H', ⟨by first | omega | exact Nat.le_refl _⟩, ⟨bel⟩⟩
  case rest =>
   clear HC10
   try clear c1
   try clear c2
   try clear p2
   try clear c3
   try clear c4
   try clear c5
   try clear c14
   try clear c14b0
   try clear c14b1
   try clear c15
   try clear c15b0
   try clear c15b1
   obtain ⟨kq, x37_9, rfl, HA, HJ9, HB⟩ := hcut
   cases kq with
   | zero => exact absurd HA.out (by simp [soft_Add.j0])
   | succ kj9 =>
    have H := HA.out
    clear HA
    simp only [soft_Add.j0] at H
    by_cases c16 : x37_9 = true
    ·
     subst c16
     rw [if_pos rfl] at H
     simp only [Option.some.injEq, Prod.mk.injEq] at H
     obtain ⟨rfl, rfl⟩ := H
     go_wp2
     go_ret2
     exact ⟨er, bel⟩
    ·
     replace c16 := Bool.eq_false_iff.mpr c16
     subst c16
     rw [if_neg (show ¬ (false = true) by decide)] at H
     by_cases c17 : t567 = 4
     ·
      rw [if_pos c17] at H
      have c17b0 : (t567 == 4) = true := beq_iff_eq.mpr c17
      have c17b1 : (t567 != 4) = false := bne_eq_false_iff_eq.mpr c17
      clear c17
      simp only [Option.some.injEq, Prod.mk.injEq] at H
      obtain ⟨rfl, rfl⟩ := H
      go_wp2
      go_ret2
      exact ⟨er, bel⟩
     ·
      rw [if_neg c17] at H
      have c17b0 : (t567 == 4) = false := beq_eq_false_iff_ne.mpr c17
      have c17b1 : (t567 != 4) = true := bne_iff_ne.mpr c17
      by_cases c18 : t568 = 4
      ·
       rw [if_pos c18] at H
       have c18b0 : (t568 == 4) = true := beq_iff_eq.mpr c18
       have c18b1 : (t568 != 4) = false := bne_eq_false_iff_eq.mpr c18
       clear c18
       simp only [Option.some.injEq, Prod.mk.injEq] at H
       obtain ⟨rfl, rfl⟩ := H
       go_wp2
       go_ret2
       exact ⟨er, bel⟩
      ·
       rw [if_neg c18] at H
       have c18b0 : (t568 == 4) = false := beq_eq_false_iff_ne.mpr c18
       have c18b1 : (t568 != 4) = true := bne_iff_ne.mpr c18
       have HC19 := Aside0.mk H
       clear H
       go_upto_region 11 with (fail)
       go_cut [57] (fun v57 wc => ∃ (kq : Nat) (x57_18 : Bool), v57 = .bool x57_18 ∧ Aside0 (soft_Add.j1 kq a0 a1 t567 t568 x57_18 = some (r1, r2)) ∧ Aside0 (kq ≤ kj9) ∧ Aside0 (Below w.heap.size w wc))
       case first =>
        have H := HC19.out
        clear HC19
        by_cases c20 : t567 = 1
        ·
         rw [if_pos c20] at H
         have c20b0 : (t567 == 1) = true := beq_iff_eq.mpr c20
         have c20b1 : (t567 != 1) = false := bne_eq_false_iff_eq.mpr c20
         clear c20
         (first | rw [c20b0] | (simp only [i64_w, i32_w]; rw [c20b0]) | skip)
         have H' := Aside0.mk H
         clear H
         go_wp2
         go_meet
         case rel => exact ⟨_, ((t568 == 1)), (by first | rfl | (simp; done) | (simp [*]; done)), H', ⟨by have := HJ9.out; first | omega | exact Nat.le_refl _⟩, ⟨bel⟩⟩
        ·
         rw [if_neg c20] at H
         have c20b0 : (t567 == 1) = false := beq_eq_false_iff_ne.mpr c20
         have c20b1 : (t567 != 1) = true := bne_iff_ne.mpr c20
         (first | rw [c20b0] | (simp only [i64_w, i32_w]; rw [c20b0]) | skip)
         have H' := Aside0.mk H
         clear H
         go_wp2
         go_meet
         case rel => exact ⟨_, (false), (by first | rfl | (simp; done) | (simp [*]; done)), H', ⟨by have := HJ9.out; first | omega | exact Nat.le_refl _⟩, ⟨bel⟩⟩
       case rest =>
        clear HC19
        try clear c1
        try clear c2
        try clear p2
        try clear c3
        try clear c4
        try clear c5
        try clear c14
        try clear c14b0
        try clear c14b1
        try clear c15
        try clear c15b0
        try clear c15b1
        try clear c16
        try clear c17
        try clear c17b0
        try clear c17b1
        try clear c18
        try clear c18b0
        try clear c18b1
        try clear c20
        try clear c20b0
        try clear c20b1
        try clear p2
        obtain ⟨kq, x57_18, rfl, HA, HJ18, HB⟩ := hcut
        cases kq with
        | zero => exact absurd HA.out (by simp [soft_Add.j1])
        | succ kj18 =>
         have H := HA.out
         clear HA
         simp only [soft_Add.j1] at H
         by_cases c21 : x57_18 = true
         ·
          subst c21
          rw [if_pos rfl] at H
          simp only [Option.some.injEq, Prod.mk.injEq] at H
          obtain ⟨rfl, rfl⟩ := H
          go_wp2
          go_ret2
          exact ⟨er, bel⟩
         ·
          replace c21 := Bool.eq_false_iff.mpr c21
          subst c21
          rw [if_neg (show ¬ (false = true) by decide)] at H
          by_cases c22 : t567 = 1
          ·
           rw [if_pos c22] at H
           have c22b0 : (t567 == 1) = true := beq_iff_eq.mpr c22
           have c22b1 : (t567 != 1) = false := bne_eq_false_iff_eq.mpr c22
           clear c22
           simp only [Option.some.injEq, Prod.mk.injEq] at H
           obtain ⟨rfl, rfl⟩ := H
           go_wp2
           go_ret2
           exact ⟨er, bel⟩
          ·
           rw [if_neg c22] at H
           have c22b0 : (t567 == 1) = false := beq_eq_false_iff_ne.mpr c22
           have c22b1 : (t567 != 1) = true := bne_iff_ne.mpr c22
           by_cases c23 : t568 = 1
           ·
            rw [if_pos c23] at H
            have c23b0 : (t568 == 1) = true := beq_iff_eq.mpr c23
            have c23b1 : (t568 != 1) = false := bne_eq_false_iff_eq.mpr c23
            clear c23
            simp only [Option.some.injEq, Prod.mk.injEq] at H
            obtain ⟨rfl, rfl⟩ := H
            go_wp2
            go_ret2
            exact ⟨er, bel⟩
           ·
            rw [if_neg c23] at H
            have c23b0 : (t568 == 1) = false := beq_eq_false_iff_ne.mpr c23
            have c23b1 : (t568 != 1) = true := bne_iff_ne.mpr c23
            obtain ⟨t569, A240, H⟩ := Option.bind_eq_some_iff.mp H
            (try dsimp -simprocs only at H)
            have A24 := Aside0.mk A240
            clear A240
            obtain ⟨t570, A250, H⟩ := Option.bind_eq_some_iff.mp H
            (try dsimp -simprocs only at H)
            have A25 := Aside0.mk A250
            clear A250
            have HC26 := Aside0.mk H
            clear H
            go_upto_if 79 with (first | ((with_reducible refine gate_callee (f := 25) rfl ?_); refine goesL_ (some 76) rfl rfl Try.func25 (by kernel_rfl) rfl #[.int .u64 a0] rfl ga ?_; (with_reducible refine (word_Abs.calls a0 t569 _ A24.out).mono ?_); rintro e w' ⟨rfl, ⟨nd, rfl⟩⟩; refine ⟨_, rfl, ?_⟩) | ((with_reducible refine gate_callee (f := 25) rfl ?_); refine goesL_ (some 78) rfl rfl Try.func25 (by kernel_rfl) rfl #[.int .u64 a1] rfl ga ?_; (with_reducible refine (word_Abs.calls a1 t570 _ A25.out).mono ?_); rintro e w' ⟨rfl, ⟨nd, rfl⟩⟩; refine ⟨_, rfl, ?_⟩))
            (try simp only [Act.put, List.setIfInBounds_toArray, List.set_cons_zero, List.set_cons_succ])
            go_cut [0, 1] (fun v0 v1 wc => ∃ (kq : Nat) (x0_25 : Int) (x1_25 : Int), v0 = .int .u64 x0_25 ∧ v1 = .int .u64 x1_25 ∧ Aside0 (soft_Add.j2 kq x0_25 x1_25 = some (r1, r2)) ∧ Aside0 (kq ≤ kj18) ∧ Aside0 (Below w.heap.size w wc))
            case first =>
             have H := HC26.out
             clear HC26
             by_cases c27 : t569 < t570
             ·
              rw [if_pos c27] at H
              have c27b0 : decide (t569 < t570) = true := decide_eq_true c27
              clear c27
              (first | rw [c27b0] | (simp only [i64_w, i32_w]; rw [c27b0]) | skip)
              have H' := Aside0.mk H
              clear H
              go_wp2
              go_meet
              case rel => exact ⟨_, (a1), (a0), (by first | rfl | (simp; done) | (simp [*]; done)), (by first | rfl | (simp; done) | (simp [*]; done)), H', ⟨by have := HJ9.out; have := HJ18.out; first | omega | exact Nat.le_refl _⟩, ⟨bel⟩⟩
             ·
              rw [if_neg c27] at H
              have c27b0 : decide (t569 < t570) = false := decide_eq_false c27
              clear c27
              (first | rw [c27b0] | (simp only [i64_w, i32_w]; rw [c27b0]) | skip)
              have H' := Aside0.mk H
              clear H
              go_wp2
              go_meet
              case rel => exact ⟨_, (a0), (a1), (by first | rfl | (simp; done) | (simp [*]; done)), (by first | rfl | (simp; done) | (simp [*]; done)), H', ⟨by have := HJ9.out; have := HJ18.out; first | omega | exact Nat.le_refl _⟩, ⟨bel⟩⟩
            case rest =>
             clear HC26
             try clear c1
             try clear c2
             try clear p2
             try clear c3
             try clear c4
             try clear c5
             try clear c14
             try clear c14b0
             try clear c14b1
             try clear c15
             try clear c15b0
             try clear c15b1
             try clear c16
             try clear c17
             try clear c17b0
             try clear c17b1
             try clear c18
             try clear c18b0
             try clear c18b1
             try clear c20
             try clear c20b0
             try clear c20b1
             try clear c21
             try clear c22
             try clear c22b0
             try clear c22b1
             try clear c23
             try clear c23b0
             try clear c23b1
             try clear c25
             try clear c26
             try clear c27
             try clear c27b0
             try clear p2
             obtain ⟨kq, x0_25, x1_25, rfl, rfl, HA, HJ25, HB⟩ := hcut
             cases kq with
             | zero => exact absurd HA.out (by simp [soft_Add.j2])
             | succ kj25 =>
              have H := HA.out
              clear HA
              simp only [soft_Add.j2] at H
              obtain ⟨⟨t571, t572⟩, A280, H⟩ := Option.bind_eq_some_iff.mp H
              (try dsimp -simprocs only at H)
              have A28 := Aside0.mk A280
              clear A280
              obtain ⟨⟨t573, t574⟩, A290, H⟩ := Option.bind_eq_some_iff.mp H
              (try dsimp -simprocs only at H)
              have A29 := Aside0.mk A290
              clear A290
              obtain ⟨⟨t575, t576⟩, A300, H⟩ := Option.bind_eq_some_iff.mp H
              (try dsimp -simprocs only at H)
              have A30 := Aside0.mk A300
              clear A300
              obtain ⟨⟨t578, t579⟩, A310, H⟩ := Option.bind_eq_some_iff.mp H
              (try dsimp -simprocs only at H)
              have A31 := Aside0.mk A310
              clear A310
              obtain ⟨⟨t580, t581, t582⟩, A320, H⟩ := Option.bind_eq_some_iff.mp H
              (try dsimp -simprocs only at H)
              have A32 := Aside0.mk A320
              clear A320
              obtain ⟨t584, A330, H⟩ := Option.bind_eq_some_iff.mp H
              (try dsimp -simprocs only at H)
              have A33 := Aside0.mk A330
              clear A330
              obtain ⟨t585, A340, H⟩ := Option.bind_eq_some_iff.mp H
              (try dsimp -simprocs only at H)
              have A34 := Aside0.mk A340
              clear A340
              by_cases c35 : (t584 == t585) = true
              ·
               rw [if_pos c35] at H
               have c35b0 : (t584 == t585) = true := c35
               (try (have c35b1 : decide (t584 = t585) = true := by simpa using c35))
               (try (have c35b2 : (t584 == t585) = true := by simpa using c35))
               clear c35
               obtain ⟨⟨t586, t587, t588⟩, A360, H⟩ := Option.bind_eq_some_iff.mp H
               (try dsimp -simprocs only at H)
               have A36 := Aside0.mk A360
               clear A360
               obtain ⟨t590, A370, H⟩ := Option.bind_eq_some_iff.mp H
               (try dsimp -simprocs only at H)
               have A37 := Aside0.mk A370
               clear A370
               obtain ⟨⟨t591, t592⟩, A380, H⟩ := Option.bind_eq_some_iff.mp H
               (try dsimp -simprocs only at H)
               have A38 := Aside0.mk A380
               clear A380
               simp only [Option.some.injEq, Prod.mk.injEq] at H
               obtain ⟨rfl, rfl⟩ := H
               try go_wp2_with (first | ((with_reducible refine gate_callee (f := 37) rfl ?_); refine goesL_ (some 84) rfl rfl Try.func37 (by kernel_rfl) rfl #[.int .u64 x0_25] rfl ga ?_; (with_reducible refine (word_Parts.calls kj25 x0_25 t571 t572 _ A28.out).mono ?_); rintro e w' ⟨rfl, ⟨nd, rfl⟩⟩; refine ⟨_, rfl, ?_⟩; (try (rw [drewN_self wc]; generalize hq_ : World.drewN wc _ = wc; have n0_ : Aside0 (Below w.heap.size w wc) := ⟨by rw [← hq_]; exact bel⟩; clear HB hq_; have HB := n0_; clear n0_))) | ((with_reducible refine gate_callee (f := 37) rfl ?_); refine goesL_ (some 89) rfl rfl Try.func37 (by kernel_rfl) rfl #[.int .u64 x1_25] rfl ga ?_; (with_reducible refine (word_Parts.calls kj25 x1_25 t573 t574 _ A29.out).mono ?_); rintro e w' ⟨rfl, ⟨nd, rfl⟩⟩; refine ⟨_, rfl, ?_⟩; (try (rw [drewN_self wc]; generalize hq_ : World.drewN wc _ = wc; have n0_ : Aside0 (Below w.heap.size w wc) := ⟨by rw [← hq_]; exact bel⟩; clear HB hq_; have HB := n0_; clear n0_))) | ((with_reducible refine gate_callee (f := 39) rfl ?_); refine goesL_ (some 94) rfl rfl Try.func39 (by kernel_rfl) rfl #[.agg #[.int .u64 0, .int .u64 t571], .int .i64 64] rfl ga ?_; (with_reducible refine (wide_Wide_Left.calls 0 t571 64 t575 t576 _ A30.out).mono ?_); rintro e w39 ⟨rfl, hb⟩; refine ⟨_, rfl, ?_⟩; have n0_ := Aside0.mk (below_step bel hb); clear HB; have HB := n0_; clear n0_; (try clear hb)) | ((with_reducible refine gate_dst (N := 15) rfl ?_); refine box_event ?hg (N := 15) ?hd (cs := #[.int .u64 0, .int .u64 0]) (t := 55) ?hr ?_; (case hd => rfl); (case hg => rfl); (case hr => first | (go_simp; done) | (go_simp; rfl)); intro gb577 hg w40 hbox hb; have n0_ := Aside0.mk (below_step bel hb); have n1_ := Aside0.mk (hbox); have n2_ := Aside0.mk ((by rw [hg]; exact (below_size bel) : w.heap.size ≤ gb577)); have n3_ := Aside0.mk ((by rw [hg]; exact (below_size bel) : w.heap.size ≤ gb577)); clear HB; have HB := n0_; have BK577 := n1_; have GW577 := n2_; have GE577 := n3_; clear n0_ n1_ n2_ n3_; clear hb hbox hg; have hcz41_0 : w40.cell? ⟨gb577, 0, none⟩ = some (.int .u64 0) := (blk_cell BK577.out 0).trans rfl; have hcz41_1 : w40.cell? ⟨gb577, 1, none⟩ = some (.int .u64 0) := (blk_cell BK577.out 1).trans rfl; have hfz41_0 := blk_frozen BK577.out 0; have hfz41_1 := blk_frozen BK577.out 1) | ((with_reducible refine gate_callee (f := 39) rfl ?_); refine goesL_ (some 98) rfl rfl Try.func39 (by kernel_rfl) rfl #[.agg #[.int .u64 0, .int .u64 t573], .int .i64 64] rfl ga ?_; (with_reducible refine (wide_Wide_Left.calls 0 t573 64 t578 t579 _ A31.out).mono ?_); rintro e w42 ⟨rfl, hb⟩; refine ⟨_, rfl, ?_⟩; have n0_ := Aside0.mk (blk_below (g := gb577) (o := .cells #[.int .u64 t575, .int .u64 t576] 55 (0, 0)) (by (with_reducible repeat (first | refine blk_drewN ?_ _ | refine blk_drew ?_ | refine blk_alloc ?_ _)); refine blk_put (cs := #[.int .u64 t575, .int .u64 0]) ?_ 1 _ rfl; (with_reducible repeat (first | refine blk_drewN ?_ _ | refine blk_drew ?_ | refine blk_alloc ?_ _)); refine blk_put (cs := #[.int .u64 0, .int .u64 0]) ?_ 0 _ rfl; (with_reducible repeat (first | refine blk_drewN ?_ _ | refine blk_drew ?_ | refine blk_alloc ?_ _)); exact BK577.out) hb); have n1_ := Aside0.mk (below_step bes hb); clear BK577; clear HB; have BK577 := n0_; have HB := n1_; clear n0_ n1_; (try clear hb)) | ((with_reducible refine gate_callee (f := 50) rfl ?_); refine goesL_ (some 102) rfl rfl Try.func50 (by kernel_rfl) rfl #[.agg #[.int .u64 t578, .int .u64 t579], .int .i64 (wrap64 (t572 - t574))] rfl ga ?_; (with_reducible refine (wide_Wide_Right.calls kj25 t578 t579 (wrap64 (t572 - t574)) t580 t581 t582 _ A32.out).mono ?_); rintro e w43 ⟨rfl, hb⟩; refine ⟨_, rfl, ?_⟩; have n0_ := Aside0.mk (blk_below (g := gb577) (o := .cells #[.int .u64 t575, .int .u64 t576] 55 (0, 0)) (kb BK577) hb); have n1_ := Aside0.mk (below_step bes hb); clear BK577; clear HB; have BK577 := n0_; have HB := n1_; clear n0_ n1_; (try clear hb)) | ((with_reducible refine gate_dst (N := 16) rfl ?_); refine box_event ?hg (N := 16) ?hd (cs := #[.int .u64 0, .int .u64 0]) (t := 55) ?hr ?_; (case hd => rfl); (case hg => rfl); (case hr => first | (go_simp; done) | (go_simp; rfl)); intro gb583 hg w44 hbox hb; have n0_ := Aside0.mk (blk_below (g := gb577) (o := .cells #[.int .u64 t575, .int .u64 t576] 55 (0, 0)) (kb BK577) hb); have n1_ := Aside0.mk (below_step bes hb); have n2_ := Aside0.mk (hbox); have n3_ := Aside0.mk ((by rw [hg]; exact (below_size bes) : w.heap.size ≤ gb583)); have n4_ := Aside0.mk ((by rw [hg]; exact (below_size bes) : w.heap.size ≤ gb583)); have n5_ := Aside0.mk ((by rw [hg]; exact Nat.ne_of_lt (blk_lt (g := gb577) (o := .cells #[.int .u64 t575, .int .u64 t576] 55 (0, 0)) (kb BK577)) : gb577 ≠ gb583)); have n6_ := Aside0.mk ((by rw [hg]; exact Nat.ne_of_gt (blk_lt (g := gb577) (o := .cells #[.int .u64 t575, .int .u64 t576] 55 (0, 0)) (kb BK577)) : gb583 ≠ gb577)); clear BK577; clear HB; have BK577 := n0_; have HB := n1_; have BK583 := n2_; have GW583 := n3_; have GE583 := n4_; have NB577_583 := n5_; have NB583_577 := n6_; clear n0_ n1_ n2_ n3_ n4_ n5_ n6_; clear hb hbox hg; have hnb45 := NB583_577.out; have hnc45 := NB577_583.out; have hcz46_0 : w44.cell? ⟨gb583, 0, none⟩ = some (.int .u64 0) := (blk_cell BK583.out 0).trans rfl; have hcz46_1 : w44.cell? ⟨gb583, 1, none⟩ = some (.int .u64 0) := (blk_cell BK583.out 1).trans rfl; have hfz46_0 := blk_frozen BK583.out 0; have hfz46_1 := blk_frozen BK583.out 1) | ((with_reducible refine gate_callee (f := 21) rfl ?_); refine goesL_ (some 106) rfl rfl Try.func21 (by kernel_rfl) rfl #[.int .u64 x0_25] rfl ga ?_; (with_reducible refine (word_Neg.calls x0_25 t584 _ A33.out).mono ?_); rintro e w' ⟨rfl, ⟨nd, rfl⟩⟩; refine ⟨_, rfl, ?_⟩) | ((with_reducible refine gate_callee (f := 21) rfl ?_); refine goesL_ (some 108) rfl rfl Try.func21 (by kernel_rfl) rfl #[.int .u64 x1_25] rfl ga ?_; (with_reducible refine (word_Neg.calls x1_25 t585 _ A34.out).mono ?_); rintro e w' ⟨rfl, ⟨nd, rfl⟩⟩; refine ⟨_, rfl, ?_⟩; have hcz47_0 : w44.cell? ⟨gb577, 0, none⟩ = some (.int .u64 t575) := (blk_cell BK577.out 0).trans rfl; have hcz47_1 : w44.cell? ⟨gb577, 1, none⟩ = some (.int .u64 t576) := (blk_cell BK577.out 1).trans rfl; have hfz47_0 := blk_frozen BK577.out 0; have hfz47_1 := blk_frozen BK577.out 1) | ((with_reducible refine gate_callee (f := 57) rfl ?_); refine goesL_ (some 113) rfl rfl Try.func57 (by kernel_rfl) rfl #[.agg #[.int .u64 t575, .int .u64 t576], .agg #[.int .u64 t580, .int .u64 t581]] rfl ga ?_; (with_reducible refine (wide_Wide_Add.calls t575 t576 t580 t581 t586 t587 t588 _ A36.out).mono ?_); rintro e w48 ⟨rfl, hb⟩; refine ⟨_, rfl, ?_⟩; have n0_ := Aside0.mk (blk_below (g := gb577) (o := .cells #[.int .u64 t575, .int .u64 t576] 55 (0, 0)) (by (with_reducible repeat (first | refine blk_drewN ?_ _ | refine blk_drew ?_ | refine blk_alloc ?_ _)); refine blk_far ?_ NB577_583.out _; (with_reducible repeat (first | refine blk_drewN ?_ _ | refine blk_drew ?_ | refine blk_alloc ?_ _)); refine blk_far ?_ NB577_583.out _; (with_reducible repeat (first | refine blk_drewN ?_ _ | refine blk_drew ?_ | refine blk_alloc ?_ _)); exact BK577.out) hb); have n1_ := Aside0.mk (blk_below (g := gb583) (o := .cells #[.int .u64 t580, .int .u64 t581] 55 (0, 0)) (by (with_reducible repeat (first | refine blk_drewN ?_ _ | refine blk_drew ?_ | refine blk_alloc ?_ _)); refine blk_put (cs := #[.int .u64 t580, .int .u64 0]) ?_ 1 _ rfl; (with_reducible repeat (first | refine blk_drewN ?_ _ | refine blk_drew ?_ | refine blk_alloc ?_ _)); refine blk_put (cs := #[.int .u64 0, .int .u64 0]) ?_ 0 _ rfl; (with_reducible repeat (first | refine blk_drewN ?_ _ | refine blk_drew ?_ | refine blk_alloc ?_ _)); exact BK583.out) hb); have n2_ := Aside0.mk (below_step bes hb); clear BK577; clear BK583; clear HB; have BK577 := n0_; have BK583 := n1_; have HB := n2_; clear n0_ n1_ n2_; (try clear hb)) | ((with_reducible refine gate_dst (N := 18) rfl ?_); refine box_event ?hg (N := 18) ?hd (cs := #[.int .u64 0, .int .u64 0]) (t := 55) ?hr ?_; (case hd => rfl); (case hg => rfl); (case hr => first | (go_simp; done) | (go_simp; rfl)); intro gb589 hg w49 hbox hb; have n0_ := Aside0.mk (blk_below (g := gb577) (o := .cells #[.int .u64 t575, .int .u64 t576] 55 (0, 0)) (kb BK577) hb); have n1_ := Aside0.mk (blk_below (g := gb583) (o := .cells #[.int .u64 t580, .int .u64 t581] 55 (0, 0)) (kb BK583) hb); have n2_ := Aside0.mk (below_step bes hb); have n3_ := Aside0.mk (hbox); have n4_ := Aside0.mk ((by rw [hg]; exact (below_size bes) : w.heap.size ≤ gb589)); have n5_ := Aside0.mk ((by rw [hg]; exact (below_size bes) : w.heap.size ≤ gb589)); have n6_ := Aside0.mk ((by rw [hg]; exact Nat.ne_of_lt (blk_lt (g := gb577) (o := .cells #[.int .u64 t575, .int .u64 t576] 55 (0, 0)) (kb BK577)) : gb577 ≠ gb589)); have n7_ := Aside0.mk ((by rw [hg]; exact Nat.ne_of_gt (blk_lt (g := gb577) (o := .cells #[.int .u64 t575, .int .u64 t576] 55 (0, 0)) (kb BK577)) : gb589 ≠ gb577)); have n8_ := Aside0.mk ((by rw [hg]; exact Nat.ne_of_lt (blk_lt (g := gb583) (o := .cells #[.int .u64 t580, .int .u64 t581] 55 (0, 0)) (kb BK583)) : gb583 ≠ gb589)); have n9_ := Aside0.mk ((by rw [hg]; exact Nat.ne_of_gt (blk_lt (g := gb583) (o := .cells #[.int .u64 t580, .int .u64 t581] 55 (0, 0)) (kb BK583)) : gb589 ≠ gb583)); clear BK577; clear BK583; clear HB; have BK577 := n0_; have BK583 := n1_; have HB := n2_; have BK589 := n3_; have GW589 := n4_; have GE589 := n5_; have NB577_589 := n6_; have NB589_577 := n7_; have NB583_589 := n8_; have NB589_583 := n9_; clear n0_ n1_ n2_ n3_ n4_ n5_ n6_ n7_ n8_ n9_; clear hb hbox hg; have hnb50 := NB589_577.out; have hnc50 := NB577_589.out; have hnb51 := NB589_583.out; have hnc51 := NB583_589.out; have hcz52_0 : w49.cell? ⟨gb589, 0, none⟩ = some (.int .u64 0) := (blk_cell BK589.out 0).trans rfl; have hcz52_1 : w49.cell? ⟨gb589, 1, none⟩ = some (.int .u64 0) := (blk_cell BK589.out 1).trans rfl; have hfz52_0 := blk_frozen BK589.out 0; have hfz52_1 := blk_frozen BK589.out 1))
               have n0_ : Aside0 (((w49.setCell ⟨gb589, 0, none⟩ (.int .u64 t586)).setCell ⟨gb589, 1, none⟩ (.int .u64 t587)).heap[gb577]? = some (.cells #[.int .u64 t575, .int .u64 t576] 55 (0, 0))) := ⟨by (with_reducible repeat (first | refine blk_drewN ?_ _ | refine blk_drew ?_ | refine blk_alloc ?_ _)); refine blk_far ?_ NB577_589.out _; (with_reducible repeat (first | refine blk_drewN ?_ _ | refine blk_drew ?_ | refine blk_alloc ?_ _)); refine blk_far ?_ NB577_589.out _; (with_reducible repeat (first | refine blk_drewN ?_ _ | refine blk_drew ?_ | refine blk_alloc ?_ _)); exact BK577.out⟩
               have n1_ : Aside0 (((w49.setCell ⟨gb589, 0, none⟩ (.int .u64 t586)).setCell ⟨gb589, 1, none⟩ (.int .u64 t587)).heap[gb583]? = some (.cells #[.int .u64 t580, .int .u64 t581] 55 (0, 0))) := ⟨by (with_reducible repeat (first | refine blk_drewN ?_ _ | refine blk_drew ?_ | refine blk_alloc ?_ _)); refine blk_far ?_ NB583_589.out _; (with_reducible repeat (first | refine blk_drewN ?_ _ | refine blk_drew ?_ | refine blk_alloc ?_ _)); refine blk_far ?_ NB583_589.out _; (with_reducible repeat (first | refine blk_drewN ?_ _ | refine blk_drew ?_ | refine blk_alloc ?_ _)); exact BK583.out⟩
               have n2_ : Aside0 (((w49.setCell ⟨gb589, 0, none⟩ (.int .u64 t586)).setCell ⟨gb589, 1, none⟩ (.int .u64 t587)).heap[gb589]? = some (.cells #[.int .u64 t586, .int .u64 t587] 55 (0, 0))) := ⟨by (with_reducible repeat (first | refine blk_drewN ?_ _ | refine blk_drew ?_ | refine blk_alloc ?_ _)); refine blk_put (cs := #[.int .u64 t586, .int .u64 0]) ?_ 1 _ rfl; (with_reducible repeat (first | refine blk_drewN ?_ _ | refine blk_drew ?_ | refine blk_alloc ?_ _)); refine blk_put (cs := #[.int .u64 0, .int .u64 0]) ?_ 0 _ rfl; (with_reducible repeat (first | refine blk_drewN ?_ _ | refine blk_drew ?_ | refine blk_alloc ?_ _)); exact BK589.out⟩
               have n3_ : Aside0 (Below w.heap.size w ((w49.setCell ⟨gb589, 0, none⟩ (.int .u64 t586)).setCell ⟨gb589, 1, none⟩ (.int .u64 t587))) := ⟨bes⟩
               (try clear BK577)
               (try clear BK583)
               (try clear BK589)
               (try clear HB)
               generalize ((w49.setCell ⟨gb589, 0, none⟩ (.int .u64 t586)).setCell ⟨gb589, 1, none⟩ (.int .u64 t587)) = w53 at n0_ n1_ n2_ n3_ ⊢
               have BK577 := n0_
               have BK583 := n1_
               have BK589 := n2_
               have HB := n3_
               clear n0_ n1_ n2_ n3_
               have n0_ := Aside0.mk (blk_drew BK577.out)
               have n1_ := Aside0.mk (blk_drew BK583.out)
               have n2_ := Aside0.mk (blk_drew BK589.out)
               have n3_ := Aside0.mk (below_drew1 HB.out)
               clear BK577
               clear BK583
               clear BK589
               clear HB
               have BK577 := n0_
               have BK583 := n1_
               have BK589 := n2_
               have HB := n3_
               clear n0_ n1_ n2_ n3_
               refine start_ (n := 11) (S := fun w' => w'.cell? ⟨gb589, 0, none⟩ = some (.int .u64 t586) ∧ w'.cell? ⟨gb589, 1, none⟩ = some (.int .u64 t587)) (ds := []) #[false, false, false, false, false, false, false, false, false, false, false] (by kernel_rfl) rfl rfl ⟨(blk_cell BK589.out 0).trans rfl, (blk_cell BK589.out 1).trans rfl⟩ (fun hHeld => ?_); refine with_tabW soft_Add.tab25 soft_Add.bits25 (fun HT_ HW_ => ?_)
               generalize w53.drew = w54 at BK577 BK583 BK589 HB hHeld ⊢
               refine pure_ (i := 0) (N := some 116) (v := ?_) (a' := ?_) #[true, false, false, false, false, false, false, false, false, false, false] rfl rfl (any_of HT_.out (by kernel_rfl)) (fun _ _ _ h => h) (Or.inl ⟨by rfl, ?_⟩) ?_ ?_
               rotate_left
               ·
                intro w'
                go_simp
                with_reducible rfl
               rotate_left
               ·
                simp only [Act.put, List.setIfInBounds_toArray, List.set_cons_zero, List.set_cons_succ, i64_w, i32_w]
                rfl
               refine pure_ (i := 3) (N := some 119) (v := ?_) (a' := ?_) #[true, false, false, true, false, false, false, false, false, false, false] rfl rfl (any_of HT_.out (by kernel_rfl)) (fun _ _ _ h => h) (Or.inl ⟨by rfl, ?_⟩) ?_ ?_
               rotate_left
               ·
                intro w'
                go_simp
                with_reducible rfl
               rotate_left
               ·
                simp only [Act.put, List.setIfInBounds_toArray, List.set_cons_zero, List.set_cons_succ, i64_w, i32_w]
                rfl
               refine pure_ (i := 4) (N := some 120) (v := ?_) (a' := ?_) #[true, false, false, true, true, false, false, false, false, false, false] rfl rfl (any_of HT_.out (by kernel_rfl)) (fun _ _ _ h => h) (Or.inl ⟨by rfl, ?_⟩) ?_ ?_
               rotate_left
               ·
                intro w'
                go_simp
                with_reducible rfl
               rotate_left
               ·
                simp only [Act.put, List.setIfInBounds_toArray, List.set_cons_zero, List.set_cons_succ, i64_w, i32_w]
                rfl
               refine pure_ (i := 5) (N := some 121) (v := ?_) (a' := ?_) #[true, false, false, true, true, true, false, false, false, false, false] rfl rfl (any_of HT_.out (by kernel_rfl)) (fun _ _ _ h => h) (Or.inl ⟨by rfl, ?_⟩) ?_ ?_
               rotate_left
               ·
                intro w'
                go_simp
                with_reducible rfl
               rotate_left
               ·
                simp only [Act.put, List.setIfInBounds_toArray, List.set_cons_zero, List.set_cons_succ, i64_w, i32_w]
                rfl
               refine take_ (i := 2) (N := some 118) (v := ?_) (a' := ?_) #[true, false, true, true, true, true, false, false, false, false, false] rfl rfl (take_ofW HT_.out HW_.out (by kernel_rfl)) (fun _ _ _ h => h) (Or.inl ⟨by rfl, ?_⟩) hHeld ?_ ?_
               rotate_left
               ·
                rintro w' ⟨s0, s1⟩
                go_simp
                with_reducible rfl
               rotate_left
               ·
                simp only [Act.put, List.setIfInBounds_toArray, List.set_cons_zero, List.set_cons_succ, i64_w, i32_w]
                rfl
               refine one_ (i := 1) (N := some 117) #[true, true, true, true, true, true, false, false, false, false, false] rfl rfl (one_of HT_.out (by kernel_rfl)) (by decide) (fun K hK => ?_)
               refine goes_ Try.func21 (by kernel_rfl) rfl #[.int .u64 x0_25] (by rfl) rfl rfl ga ?_
               with_reducible refine (word_Neg.calls x0_25 t590 _ A37.out).mono ?_
               rintro e w' ⟨rfl, ⟨nd, rfl⟩⟩
               refine ⟨_, rfl, ?_⟩
               refine hK.out _ _ ⟨(blk_cell BK589.out 0).trans rfl, (blk_cell BK589.out 1).trans rfl⟩ (fun hHeld => ?_)
               clear hK K
               refine norm_ (a' := ?_) ?_ ?_
               rotate_left
               ·
                show Act.put _ (some 117) _ = _
                simp only [Act.put, List.setIfInBounds_toArray, List.set_cons_zero, List.set_cons_succ, i64_w, i32_w]
                rfl
               refine one_ (i := 6) (N := some 122) #[true, true, true, true, true, true, true, false, false, false, false] rfl rfl (one_of HT_.out (by kernel_rfl)) (by decide) (fun K hK => ?_)
               refine goes_ Try.func41 (by kernel_rfl) rfl #[.bool t590, .agg #[.int .u64 t586, .int .u64 t587], .int .i64 (wrap64 (t572 - 64)), .bool t582] (by rfl) rfl rfl ga ?_
               with_reducible refine (round_Round.calls kj25 t590 t586 t587 (wrap64 (t572 - 64)) t582 t591 t592 _ A38.out).mono ?_
               rintro e w55 ⟨rfl, hb⟩
               refine ⟨_, rfl, ?_⟩
               have n0_ := Aside0.mk (blk_below (g := gb577) (o := .cells #[.int .u64 t575, .int .u64 t576] 55 (0, 0)) (kb BK577) hb)
               have n1_ := Aside0.mk (blk_below (g := gb583) (o := .cells #[.int .u64 t580, .int .u64 t581] 55 (0, 0)) (kb BK583) hb)
               have n2_ := Aside0.mk (blk_below (g := gb589) (o := .cells #[.int .u64 t586, .int .u64 t587] 55 (0, 0)) (kb BK589) hb)
               have n3_ := Aside0.mk (below_step bes hb)
               clear BK577
               clear BK583
               clear BK589
               clear HB
               have BK577 := n0_
               have BK583 := n1_
               have BK589 := n2_
               have HB := n3_
               clear n0_ n1_ n2_ n3_
               (try clear hb)
               (try clear hb2)
               (try clear hk)
               (try clear hi)
               refine hK.out _ _ ⟨(blk_cell BK589.out 0).trans rfl, (blk_cell BK589.out 1).trans rfl⟩ (fun hHeld => ?_)
               clear hK K
               refine norm_ (a' := ?_) ?_ ?_
               rotate_left
               ·
                show Act.put _ (some 122) _ = _
                simp only [Act.put, List.setIfInBounds_toArray, List.set_cons_zero, List.set_cons_succ, i64_w, i32_w]
                rfl
               refine pure_ (i := 7) (N := some 123) (v := ?_) (a' := ?_) #[true, true, true, true, true, true, true, true, false, false, false] rfl rfl (any_of HT_.out (by kernel_rfl)) (fun _ _ _ h => h) (Or.inl ⟨by rfl, ?_⟩) ?_ ?_
               rotate_left
               ·
                intro w'
                go_simp
                with_reducible rfl
               rotate_left
               ·
                simp only [Act.put, List.setIfInBounds_toArray, List.set_cons_zero, List.set_cons_succ, i64_w, i32_w]
                rfl
               refine pure_ (i := 8) (N := some 124) (v := ?_) (a' := ?_) #[true, true, true, true, true, true, true, true, true, false, false] rfl rfl (any_of HT_.out (by kernel_rfl)) (fun _ _ _ h => h) (Or.inl ⟨by rfl, ?_⟩) ?_ ?_
               rotate_left
               ·
                intro w'
                go_simp
                with_reducible rfl
               rotate_left
               ·
                simp only [Act.put, List.setIfInBounds_toArray, List.set_cons_zero, List.set_cons_succ, i64_w, i32_w]
                rfl
               refine pure_ (i := 9) (N := some 4) (v := ?_) (a' := ?_) #[true, true, true, true, true, true, true, true, true, true, false] rfl rfl (any_of HT_.out (by kernel_rfl)) (fun _ _ _ h => h) (Or.inl ⟨by rfl, ?_⟩) ?_ ?_
               rotate_left
               ·
                intro w'
                go_simp
                with_reducible rfl
               rotate_left
               ·
                simp only [Act.put, List.setIfInBounds_toArray, List.set_cons_zero, List.set_cons_succ, i64_w, i32_w]
                rfl
               refine pure_ (i := 10) (N := some 5) (v := ?_) (a' := ?_) #[true, true, true, true, true, true, true, true, true, true, true] rfl rfl (any_of HT_.out (by kernel_rfl)) (fun _ _ _ h => h) (Or.inl ⟨by rfl, ?_⟩) ?_ ?_
               rotate_left
               ·
                intro w'
                go_simp
                with_reducible rfl
               rotate_left
               ·
                simp only [Act.put, List.setIfInBounds_toArray, List.set_cons_zero, List.set_cons_succ, i64_w, i32_w]
                rfl
               refine done_ (done_of HT_.out (by kernel_rfl)) ?_
               try go_wp2
               go_ret2
               exact ⟨er, bes⟩
              ·
               rw [if_neg c35] at H
               have c35b0 : (t584 == t585) = false := by simpa using c35
               (try (have c35b1 : decide (t584 = t585) = false := by simpa using c35))
               (try (have c35b2 : (t584 == t585) = false := by simpa using c35))
               (try (have c35b3 : ¬ (t584 = t585) := by simpa using c35))
               clear c35
               have HC56 := Aside0.mk H
               clear H
               go_upto_if 125 with (first | ((with_reducible refine gate_callee (f := 37) rfl ?_); refine goesL_ (some 84) rfl rfl Try.func37 (by kernel_rfl) rfl #[.int .u64 x0_25] rfl ga ?_; (with_reducible refine (word_Parts.calls kj25 x0_25 t571 t572 _ A28.out).mono ?_); rintro e w' ⟨rfl, ⟨nd, rfl⟩⟩; refine ⟨_, rfl, ?_⟩; (try (rw [drewN_self wc]; generalize hq_ : World.drewN wc _ = wc; have n0_ : Aside0 (Below w.heap.size w wc) := ⟨by rw [← hq_]; exact bel⟩; clear HB hq_; have HB := n0_; clear n0_))) | ((with_reducible refine gate_callee (f := 37) rfl ?_); refine goesL_ (some 89) rfl rfl Try.func37 (by kernel_rfl) rfl #[.int .u64 x1_25] rfl ga ?_; (with_reducible refine (word_Parts.calls kj25 x1_25 t573 t574 _ A29.out).mono ?_); rintro e w' ⟨rfl, ⟨nd, rfl⟩⟩; refine ⟨_, rfl, ?_⟩; (try (rw [drewN_self wc]; generalize hq_ : World.drewN wc _ = wc; have n0_ : Aside0 (Below w.heap.size w wc) := ⟨by rw [← hq_]; exact bel⟩; clear HB hq_; have HB := n0_; clear n0_))) | ((with_reducible refine gate_callee (f := 39) rfl ?_); refine goesL_ (some 94) rfl rfl Try.func39 (by kernel_rfl) rfl #[.agg #[.int .u64 0, .int .u64 t571], .int .i64 64] rfl ga ?_; (with_reducible refine (wide_Wide_Left.calls 0 t571 64 t575 t576 _ A30.out).mono ?_); rintro e w57 ⟨rfl, hb⟩; refine ⟨_, rfl, ?_⟩; have n0_ := Aside0.mk (below_step bel hb); clear HB; have HB := n0_; clear n0_; (try clear hb)) | ((with_reducible refine gate_dst (N := 15) rfl ?_); refine box_event ?hg (N := 15) ?hd (cs := #[.int .u64 0, .int .u64 0]) (t := 55) ?hr ?_; (case hd => rfl); (case hg => rfl); (case hr => first | (go_simp; done) | (go_simp; rfl)); intro gb577 hg w58 hbox hb; have n0_ := Aside0.mk (below_step bel hb); have n1_ := Aside0.mk (hbox); have n2_ := Aside0.mk ((by rw [hg]; exact (below_size bel) : w.heap.size ≤ gb577)); have n3_ := Aside0.mk ((by rw [hg]; exact (below_size bel) : w.heap.size ≤ gb577)); clear HB; have HB := n0_; have BK577 := n1_; have GW577 := n2_; have GE577 := n3_; clear n0_ n1_ n2_ n3_; clear hb hbox hg; have hcz59_0 : w58.cell? ⟨gb577, 0, none⟩ = some (.int .u64 0) := (blk_cell BK577.out 0).trans rfl; have hcz59_1 : w58.cell? ⟨gb577, 1, none⟩ = some (.int .u64 0) := (blk_cell BK577.out 1).trans rfl; have hfz59_0 := blk_frozen BK577.out 0; have hfz59_1 := blk_frozen BK577.out 1) | ((with_reducible refine gate_callee (f := 39) rfl ?_); refine goesL_ (some 98) rfl rfl Try.func39 (by kernel_rfl) rfl #[.agg #[.int .u64 0, .int .u64 t573], .int .i64 64] rfl ga ?_; (with_reducible refine (wide_Wide_Left.calls 0 t573 64 t578 t579 _ A31.out).mono ?_); rintro e w60 ⟨rfl, hb⟩; refine ⟨_, rfl, ?_⟩; have n0_ := Aside0.mk (blk_below (g := gb577) (o := .cells #[.int .u64 t575, .int .u64 t576] 55 (0, 0)) (by (with_reducible repeat (first | refine blk_drewN ?_ _ | refine blk_drew ?_ | refine blk_alloc ?_ _)); refine blk_put (cs := #[.int .u64 t575, .int .u64 0]) ?_ 1 _ rfl; (with_reducible repeat (first | refine blk_drewN ?_ _ | refine blk_drew ?_ | refine blk_alloc ?_ _)); refine blk_put (cs := #[.int .u64 0, .int .u64 0]) ?_ 0 _ rfl; (with_reducible repeat (first | refine blk_drewN ?_ _ | refine blk_drew ?_ | refine blk_alloc ?_ _)); exact BK577.out) hb); have n1_ := Aside0.mk (below_step bes hb); clear BK577; clear HB; have BK577 := n0_; have HB := n1_; clear n0_ n1_; (try clear hb)) | ((with_reducible refine gate_callee (f := 50) rfl ?_); refine goesL_ (some 102) rfl rfl Try.func50 (by kernel_rfl) rfl #[.agg #[.int .u64 t578, .int .u64 t579], .int .i64 (wrap64 (t572 - t574))] rfl ga ?_; (with_reducible refine (wide_Wide_Right.calls kj25 t578 t579 (wrap64 (t572 - t574)) t580 t581 t582 _ A32.out).mono ?_); rintro e w61 ⟨rfl, hb⟩; refine ⟨_, rfl, ?_⟩; have n0_ := Aside0.mk (blk_below (g := gb577) (o := .cells #[.int .u64 t575, .int .u64 t576] 55 (0, 0)) (kb BK577) hb); have n1_ := Aside0.mk (below_step bes hb); clear BK577; clear HB; have BK577 := n0_; have HB := n1_; clear n0_ n1_; (try clear hb)) | ((with_reducible refine gate_dst (N := 16) rfl ?_); refine box_event ?hg (N := 16) ?hd (cs := #[.int .u64 0, .int .u64 0]) (t := 55) ?hr ?_; (case hd => rfl); (case hg => rfl); (case hr => first | (go_simp; done) | (go_simp; rfl)); intro gb583 hg w62 hbox hb; have n0_ := Aside0.mk (blk_below (g := gb577) (o := .cells #[.int .u64 t575, .int .u64 t576] 55 (0, 0)) (kb BK577) hb); have n1_ := Aside0.mk (below_step bes hb); have n2_ := Aside0.mk (hbox); have n3_ := Aside0.mk ((by rw [hg]; exact (below_size bes) : w.heap.size ≤ gb583)); have n4_ := Aside0.mk ((by rw [hg]; exact (below_size bes) : w.heap.size ≤ gb583)); have n5_ := Aside0.mk ((by rw [hg]; exact Nat.ne_of_lt (blk_lt (g := gb577) (o := .cells #[.int .u64 t575, .int .u64 t576] 55 (0, 0)) (kb BK577)) : gb577 ≠ gb583)); have n6_ := Aside0.mk ((by rw [hg]; exact Nat.ne_of_gt (blk_lt (g := gb577) (o := .cells #[.int .u64 t575, .int .u64 t576] 55 (0, 0)) (kb BK577)) : gb583 ≠ gb577)); clear BK577; clear HB; have BK577 := n0_; have HB := n1_; have BK583 := n2_; have GW583 := n3_; have GE583 := n4_; have NB577_583 := n5_; have NB583_577 := n6_; clear n0_ n1_ n2_ n3_ n4_ n5_ n6_; clear hb hbox hg; have hnb63 := NB583_577.out; have hnc63 := NB577_583.out; have hcz64_0 : w62.cell? ⟨gb583, 0, none⟩ = some (.int .u64 0) := (blk_cell BK583.out 0).trans rfl; have hcz64_1 : w62.cell? ⟨gb583, 1, none⟩ = some (.int .u64 0) := (blk_cell BK583.out 1).trans rfl; have hfz64_0 := blk_frozen BK583.out 0; have hfz64_1 := blk_frozen BK583.out 1) | ((with_reducible refine gate_callee (f := 21) rfl ?_); refine goesL_ (some 106) rfl rfl Try.func21 (by kernel_rfl) rfl #[.int .u64 x0_25] rfl ga ?_; (with_reducible refine (word_Neg.calls x0_25 t584 _ A33.out).mono ?_); rintro e w' ⟨rfl, ⟨nd, rfl⟩⟩; refine ⟨_, rfl, ?_⟩) | ((with_reducible refine gate_callee (f := 21) rfl ?_); refine goesL_ (some 108) rfl rfl Try.func21 (by kernel_rfl) rfl #[.int .u64 x1_25] rfl ga ?_; (with_reducible refine (word_Neg.calls x1_25 t585 _ A34.out).mono ?_); rintro e w' ⟨rfl, ⟨nd, rfl⟩⟩; refine ⟨_, rfl, ?_⟩))
               (try simp only [Act.put, List.setIfInBounds_toArray, List.set_cons_zero, List.set_cons_succ])
               go_cut [] (fun wc => ∃ (kq : Nat) (x584000_55 : Int) (x584001_55 : Int), Aside0 (soft_Add.j3 kq x0_25 t572 t582 t575 t576 x584000_55 x584001_55 = some (r1, r2)) ∧ Aside0 (kq ≤ kj25) ∧ Aside0 (wc.heap[gb577]? = some (.cells #[.int .u64 t575, .int .u64 t576] 55 (0, 0))) ∧ Aside0 (wc.heap[gb583]? = some (.cells #[.int .u64 x584000_55, .int .u64 x584001_55] 55 (0, 0))) ∧ Aside0 (Below w.heap.size w wc))
               case first =>
                have H := HC56.out
                clear HC56
                by_cases c65 : t582 = true
                ·
                 subst c65
                 rw [if_pos rfl] at H
                 obtain ⟨⟨t593, t594, t595⟩, A660, H⟩ := Option.bind_eq_some_iff.mp H
                 (try dsimp -simprocs only at H)
                 have A66 := Aside0.mk A660
                 clear A660
                 have H' := Aside0.mk H
                 clear H
                 have hnb67 := NB583_577.out
                 have hnc67 := NB577_583.out
                 have hcz68_0 : w62.cell? ⟨gb583, 0, none⟩ = some (.int .u64 0) := (blk_cell BK583.out 0).trans rfl
                 have hcz68_1 : w62.cell? ⟨gb583, 1, none⟩ = some (.int .u64 0) := (blk_cell BK583.out 1).trans rfl
                 have hfz68_0 := blk_frozen BK583.out 0
                 have hfz68_1 := blk_frozen BK583.out 1
                 go_wp2_with (first | ((with_reducible refine gate_callee (f := 57) rfl ?_); refine goesL_ (some 129) rfl rfl Try.func57 (by kernel_rfl) rfl #[.agg #[.int .u64 t580, .int .u64 t581], .agg #[.int .u64 0, .int .u64 1]] rfl ga ?_; (with_reducible refine (wide_Wide_Add.calls t580 t581 0 1 t593 t594 t595 _ A66.out).mono ?_); rintro e w69 ⟨rfl, hb⟩; refine ⟨_, rfl, ?_⟩; have n0_ := Aside0.mk (blk_below (g := gb577) (o := .cells #[.int .u64 t575, .int .u64 t576] 55 (0, 0)) (by (with_reducible repeat (first | refine blk_drewN ?_ _ | refine blk_drew ?_ | refine blk_alloc ?_ _)); refine blk_far ?_ NB577_583.out _; (with_reducible repeat (first | refine blk_drewN ?_ _ | refine blk_drew ?_ | refine blk_alloc ?_ _)); refine blk_far ?_ NB577_583.out _; (with_reducible repeat (first | refine blk_drewN ?_ _ | refine blk_drew ?_ | refine blk_alloc ?_ _)); exact BK577.out) hb); have n1_ := Aside0.mk (blk_below (g := gb583) (o := .cells #[.int .u64 t580, .int .u64 t581] 55 (0, 0)) (by (with_reducible repeat (first | refine blk_drewN ?_ _ | refine blk_drew ?_ | refine blk_alloc ?_ _)); refine blk_put (cs := #[.int .u64 t580, .int .u64 0]) ?_ 1 _ rfl; (with_reducible repeat (first | refine blk_drewN ?_ _ | refine blk_drew ?_ | refine blk_alloc ?_ _)); refine blk_put (cs := #[.int .u64 0, .int .u64 0]) ?_ 0 _ rfl; (with_reducible repeat (first | refine blk_drewN ?_ _ | refine blk_drew ?_ | refine blk_alloc ?_ _)); exact BK583.out) hb); have n2_ := Aside0.mk (below_step bes hb); clear BK577; clear BK583; clear HB; have BK577 := n0_; have BK583 := n1_; have HB := n2_; clear n0_ n1_ n2_; (try clear hb); have hcz70_0 : w69.cell? ⟨gb583, 0, none⟩ = some (.int .u64 t580) := (blk_cell BK583.out 0).trans rfl; have hcz70_1 : w69.cell? ⟨gb583, 1, none⟩ = some (.int .u64 t581) := (blk_cell BK583.out 1).trans rfl; have hfz70_0 := blk_frozen BK583.out 0; have hfz70_1 := blk_frozen BK583.out 1))
                 go_meet
                 case rel => exact ⟨_, (t593), (t594), H', ⟨by have := HJ9.out; have := HJ18.out; have := HJ25.out; first | omega | exact Nat.le_refl _⟩, ⟨by (with_reducible repeat (first | refine blk_drewN ?_ _ | refine blk_drew ?_ | refine blk_alloc ?_ _)); refine blk_far ?_ NB577_583.out _; (with_reducible repeat (first | refine blk_drewN ?_ _ | refine blk_drew ?_ | refine blk_alloc ?_ _)); refine blk_far ?_ NB577_583.out _; (with_reducible repeat (first | refine blk_drewN ?_ _ | refine blk_drew ?_ | refine blk_alloc ?_ _)); exact BK577.out⟩, ⟨by (with_reducible repeat (first | refine blk_drewN ?_ _ | refine blk_drew ?_ | refine blk_alloc ?_ _)); refine blk_put (cs := #[.int .u64 t593, .int .u64 t581]) ?_ 1 _ rfl; (with_reducible repeat (first | refine blk_drewN ?_ _ | refine blk_drew ?_ | refine blk_alloc ?_ _)); refine blk_put (cs := #[.int .u64 t580, .int .u64 t581]) ?_ 0 _ rfl; (with_reducible repeat (first | refine blk_drewN ?_ _ | refine blk_drew ?_ | refine blk_alloc ?_ _)); exact BK583.out⟩, ⟨bes⟩⟩
                ·
                 replace c65 := Bool.eq_false_iff.mpr c65
                 subst c65
                 rw [if_neg (show ¬ (false = true) by decide)] at H
                 have H' := Aside0.mk H
                 clear H
                 go_wp2
                 go_meet
                 case rel => exact ⟨_, (t580), (t581), H', ⟨by have := HJ9.out; have := HJ18.out; have := HJ25.out; first | omega | exact Nat.le_refl _⟩, ⟨by (with_reducible repeat (first | refine blk_drewN ?_ _ | refine blk_drew ?_ | refine blk_alloc ?_ _)); refine blk_far ?_ NB577_583.out _; (with_reducible repeat (first | refine blk_drewN ?_ _ | refine blk_drew ?_ | refine blk_alloc ?_ _)); refine blk_far ?_ NB577_583.out _; (with_reducible repeat (first | refine blk_drewN ?_ _ | refine blk_drew ?_ | refine blk_alloc ?_ _)); exact BK577.out⟩, ⟨by (with_reducible repeat (first | refine blk_drewN ?_ _ | refine blk_drew ?_ | refine blk_alloc ?_ _)); refine blk_put (cs := #[.int .u64 t580, .int .u64 0]) ?_ 1 _ rfl; (with_reducible repeat (first | refine blk_drewN ?_ _ | refine blk_drew ?_ | refine blk_alloc ?_ _)); refine blk_put (cs := #[.int .u64 0, .int .u64 0]) ?_ 0 _ rfl; (with_reducible repeat (first | refine blk_drewN ?_ _ | refine blk_drew ?_ | refine blk_alloc ?_ _)); exact BK583.out⟩, ⟨bes⟩⟩
               case rest =>
                clear HC56
                try clear c1
                try clear c2
                try clear p2
                try clear c3
                try clear c4
                try clear c5
                try clear c6
                try clear p6
                try clear c14
                try clear c14b0
                try clear c14b1
                try clear c15
                try clear c15b0
                try clear c15b1
                try clear c16
                try clear c17
                try clear c17b0
                try clear c17b1
                try clear c18
                try clear c18b0
                try clear c18b1
                try clear c20
                try clear c20b0
                try clear c20b1
                try clear c21
                try clear c22
                try clear c22b0
                try clear c22b1
                try clear c23
                try clear c23b0
                try clear c23b1
                try clear c25
                try clear c26
                try clear c27
                try clear c27b0
                try clear c30
                try clear c35
                try clear c35b0
                try clear c35b1
                try clear c35b2
                try clear c37
                try clear c39
                try clear c41
                try clear c45
                try clear c50
                try clear c51
                try clear c53
                try clear c57
                try clear c63
                try clear p64
                try clear c65
                try clear c67
                try clear hcz41_0
                try clear hcz41_1
                try clear hcz46_0
                try clear hcz46_1
                try clear hcz47_0
                try clear hcz47_1
                try clear hcz52_0
                try clear hcz52_1
                try clear hcz59_0
                try clear hcz59_1
                try clear hcz64_0
                try clear hcz64_1
                try clear hcz68_0
                try clear hcz68_1
                try clear hcz70_0
                try clear hcz70_1
                try clear hfz41_0
                try clear hfz41_1
                try clear hfz46_0
                try clear hfz46_1
                try clear hfz47_0
                try clear hfz47_1
                try clear hfz52_0
                try clear hfz52_1
                try clear hfz59_0
                try clear hfz59_1
                try clear hfz64_0
                try clear hfz64_1
                try clear hfz68_0
                try clear hfz68_1
                try clear hfz70_0
                try clear hfz70_1
                try clear p2
                obtain ⟨kq, x584000_55, x584001_55, HA, HJ55, BK577, BK583, HB⟩ := hcut
                cases kq with
                | zero => exact absurd HA.out (by simp [soft_Add.j3])
                | succ kj55 =>
                 have H := HA.out
                 clear HA
                 simp only [soft_Add.j3] at H
                 obtain ⟨⟨t596, t597, t598⟩, A710, H⟩ := Option.bind_eq_some_iff.mp H
                 (try dsimp -simprocs only at H)
                 have A71 := Aside0.mk A710
                 clear A710
                 have HC72 := Aside0.mk H
                 clear H
                 have hnb73 := NB577_583.out
                 have hnc73 := NB583_577.out
                 have hcz74_0 : wc.cell? ⟨gb577, 0, none⟩ = some (.int .u64 t575) := (blk_cell BK577.out 0).trans rfl
                 have hcz74_1 : wc.cell? ⟨gb577, 1, none⟩ = some (.int .u64 t576) := (blk_cell BK577.out 1).trans rfl
                 have hfz74_0 := blk_frozen BK577.out 0
                 have hfz74_1 := blk_frozen BK577.out 1
                 have hcz75_0 : wc.cell? ⟨gb583, 0, none⟩ = some (.int .u64 x584000_55) := (blk_cell BK583.out 0).trans rfl
                 have hcz75_1 : wc.cell? ⟨gb583, 1, none⟩ = some (.int .u64 x584001_55) := (blk_cell BK583.out 1).trans rfl
                 have hfz75_0 := blk_frozen BK583.out 0
                 have hfz75_1 := blk_frozen BK583.out 1
                 go_upto_region 29 with (first | ((with_reducible refine gate_callee (f := 58) rfl ?_); refine goesL_ (some 135) rfl rfl Try.func58 (by kernel_rfl) rfl #[.agg #[.int .u64 t575, .int .u64 t576], .agg #[.int .u64 x584000_55, .int .u64 x584001_55]] rfl ga ?_; (with_reducible refine (wide_Wide_Sub.calls t575 t576 x584000_55 x584001_55 t596 t597 t598 _ A71.out).mono ?_); rintro e w76 ⟨rfl, hb⟩; refine ⟨_, rfl, ?_⟩; have n0_ := Aside0.mk (blk_below (g := gb577) (o := .cells #[.int .u64 t575, .int .u64 t576] 55 (0, 0)) (kb BK577) hb); have n1_ := Aside0.mk (blk_below (g := gb583) (o := .cells #[.int .u64 x584000_55, .int .u64 x584001_55] 55 (0, 0)) (kb BK583) hb); have n2_ := Aside0.mk (below_step bes hb); clear BK577; clear BK583; clear HB; have BK577 := n0_; have BK583 := n1_; have HB := n2_; clear n0_ n1_ n2_; (try clear hb)) | ((with_reducible refine gate_dst (N := 20) rfl ?_); refine box_event ?hg (N := 20) ?hd (cs := #[.int .u64 0, .int .u64 0]) (t := 55) ?hr ?_; (case hd => rfl); (case hg => rfl); (case hr => first | (go_simp; done) | (go_simp; rfl)); intro gb599 hg w77 hbox hb; have n0_ := Aside0.mk (blk_below (g := gb577) (o := .cells #[.int .u64 t575, .int .u64 t576] 55 (0, 0)) (kb BK577) hb); have n1_ := Aside0.mk (blk_below (g := gb583) (o := .cells #[.int .u64 x584000_55, .int .u64 x584001_55] 55 (0, 0)) (kb BK583) hb); have n2_ := Aside0.mk (below_step bes hb); have n3_ := Aside0.mk (hbox); have n4_ := Aside0.mk ((by rw [hg]; exact (below_size bes) : w.heap.size ≤ gb599)); have n5_ := Aside0.mk ((by rw [hg]; exact (below_size bes) : w.heap.size ≤ gb599)); have n6_ := Aside0.mk ((by rw [hg]; exact Nat.ne_of_lt (blk_lt (g := gb577) (o := .cells #[.int .u64 t575, .int .u64 t576] 55 (0, 0)) (kb BK577)) : gb577 ≠ gb599)); have n7_ := Aside0.mk ((by rw [hg]; exact Nat.ne_of_gt (blk_lt (g := gb577) (o := .cells #[.int .u64 t575, .int .u64 t576] 55 (0, 0)) (kb BK577)) : gb599 ≠ gb577)); have n8_ := Aside0.mk ((by rw [hg]; exact Nat.ne_of_lt (blk_lt (g := gb583) (o := .cells #[.int .u64 x584000_55, .int .u64 x584001_55] 55 (0, 0)) (kb BK583)) : gb583 ≠ gb599)); have n9_ := Aside0.mk ((by rw [hg]; exact Nat.ne_of_gt (blk_lt (g := gb583) (o := .cells #[.int .u64 x584000_55, .int .u64 x584001_55] 55 (0, 0)) (kb BK583)) : gb599 ≠ gb583)); clear BK577; clear BK583; clear HB; have BK577 := n0_; have BK583 := n1_; have HB := n2_; have BK599 := n3_; have GW599 := n4_; have GE599 := n5_; have NB577_599 := n6_; have NB599_577 := n7_; have NB583_599 := n8_; have NB599_583 := n9_; clear n0_ n1_ n2_ n3_ n4_ n5_ n6_ n7_ n8_ n9_; clear hb hbox hg; have hnb78 := NB599_577.out; have hnc78 := NB577_599.out; have hnb79 := NB599_583.out; have hnc79 := NB583_599.out; have hcz80_0 : w77.cell? ⟨gb599, 0, none⟩ = some (.int .u64 0) := (blk_cell BK599.out 0).trans rfl; have hcz80_1 : w77.cell? ⟨gb599, 1, none⟩ = some (.int .u64 0) := (blk_cell BK599.out 1).trans rfl; have hfz80_0 := blk_frozen BK599.out 0; have hfz80_1 := blk_frozen BK599.out 1))
                 (try simp only [Act.put, List.setIfInBounds_toArray, List.set_cons_zero, List.set_cons_succ])
                 go_cut [143] (fun v143 wc => ∃ (kq : Nat) (x143_71 : Bool), v143 = .bool x143_71 ∧ Aside0 (soft_Add.j4 kq x0_25 t572 t582 x143_71 t596 t597 = some (r1, r2)) ∧ Aside0 (kq ≤ kj55) ∧ Aside0 (wc.heap[gb577]? = some (.cells #[.int .u64 t575, .int .u64 t576] 55 (0, 0))) ∧ Aside0 (wc.heap[gb583]? = some (.cells #[.int .u64 x584000_55, .int .u64 x584001_55] 55 (0, 0))) ∧ Aside0 (wc.heap[gb599]? = some (.cells #[.int .u64 t596, .int .u64 t597] 55 (0, 0))) ∧ Aside0 (Below w.heap.size w wc))
                 case first =>
                  have H := HC72.out
                  clear HC72
                  obtain ⟨t600, A810, H⟩ := Option.bind_eq_some_iff.mp H
                  (try dsimp -simprocs only at H)
                  have A81 := Aside0.mk A810
                  clear A810
                  by_cases c82 : t600 = true
                  ·
                   subst c82
                   rw [if_pos rfl] at H
                   have H' := Aside0.mk H
                   clear H
                   have hnb83 := NB599_577.out
                   have hnc83 := NB577_599.out
                   have hnb84 := NB599_583.out
                   have hnc84 := NB583_599.out
                   have hcz85_0 : w77.cell? ⟨gb599, 0, none⟩ = some (.int .u64 0) := (blk_cell BK599.out 0).trans rfl
                   have hcz85_1 : w77.cell? ⟨gb599, 1, none⟩ = some (.int .u64 0) := (blk_cell BK599.out 1).trans rfl
                   have hfz85_0 := blk_frozen BK599.out 0
                   have hfz85_1 := blk_frozen BK599.out 1
                   go_wp2_with (first | ((with_reducible refine gate_callee (f := 59) rfl ?_); refine goesL_ (some 139) rfl rfl Try.func59 (by kernel_rfl) rfl #[.agg #[.int .u64 t596, .int .u64 t597]] rfl ga ?_; (with_reducible refine (wide_Wide_Zero.calls t596 t597 true _ A81.out).mono ?_); rintro e w86 ⟨rfl, hb⟩; refine ⟨_, rfl, ?_⟩; have n0_ := Aside0.mk (blk_below (g := gb577) (o := .cells #[.int .u64 t575, .int .u64 t576] 55 (0, 0)) (by (with_reducible repeat (first | refine blk_drewN ?_ _ | refine blk_drew ?_ | refine blk_alloc ?_ _)); refine blk_far ?_ NB577_599.out _; (with_reducible repeat (first | refine blk_drewN ?_ _ | refine blk_drew ?_ | refine blk_alloc ?_ _)); refine blk_far ?_ NB577_599.out _; (with_reducible repeat (first | refine blk_drewN ?_ _ | refine blk_drew ?_ | refine blk_alloc ?_ _)); exact BK577.out) hb); have n1_ := Aside0.mk (blk_below (g := gb583) (o := .cells #[.int .u64 x584000_55, .int .u64 x584001_55] 55 (0, 0)) (by (with_reducible repeat (first | refine blk_drewN ?_ _ | refine blk_drew ?_ | refine blk_alloc ?_ _)); refine blk_far ?_ NB583_599.out _; (with_reducible repeat (first | refine blk_drewN ?_ _ | refine blk_drew ?_ | refine blk_alloc ?_ _)); refine blk_far ?_ NB583_599.out _; (with_reducible repeat (first | refine blk_drewN ?_ _ | refine blk_drew ?_ | refine blk_alloc ?_ _)); exact BK583.out) hb); have n2_ := Aside0.mk (blk_below (g := gb599) (o := .cells #[.int .u64 t596, .int .u64 t597] 55 (0, 0)) (by (with_reducible repeat (first | refine blk_drewN ?_ _ | refine blk_drew ?_ | refine blk_alloc ?_ _)); refine blk_put (cs := #[.int .u64 t596, .int .u64 0]) ?_ 1 _ rfl; (with_reducible repeat (first | refine blk_drewN ?_ _ | refine blk_drew ?_ | refine blk_alloc ?_ _)); refine blk_put (cs := #[.int .u64 0, .int .u64 0]) ?_ 0 _ rfl; (with_reducible repeat (first | refine blk_drewN ?_ _ | refine blk_drew ?_ | refine blk_alloc ?_ _)); exact BK599.out) hb); have n3_ := Aside0.mk (below_step bes hb); clear BK577; clear BK583; clear BK599; clear HB; have BK577 := n0_; have BK583 := n1_; have BK599 := n2_; have HB := n3_; clear n0_ n1_ n2_ n3_; (try clear hb)))
                   go_meet
                   case rel => exact ⟨_, (!t582), (by first | rfl | (simp; done) | (simp [*]; done)), H', ⟨by have := HJ9.out; have := HJ18.out; have := HJ25.out; have := HJ55.out; first | omega | exact Nat.le_refl _⟩, ⟨kb BK577⟩, ⟨kb BK583⟩, ⟨kb BK599⟩, ⟨bes⟩⟩
                  ·
                   replace c82 := Bool.eq_false_iff.mpr c82
                   subst c82
                   rw [if_neg (show ¬ (false = true) by decide)] at H
                   have H' := Aside0.mk H
                   clear H
                   have hnb87 := NB599_577.out
                   have hnc87 := NB577_599.out
                   have hnb88 := NB599_583.out
                   have hnc88 := NB583_599.out
                   have hcz89_0 : w77.cell? ⟨gb599, 0, none⟩ = some (.int .u64 0) := (blk_cell BK599.out 0).trans rfl
                   have hcz89_1 : w77.cell? ⟨gb599, 1, none⟩ = some (.int .u64 0) := (blk_cell BK599.out 1).trans rfl
                   have hfz89_0 := blk_frozen BK599.out 0
                   have hfz89_1 := blk_frozen BK599.out 1
                   go_wp2_with (first | ((with_reducible refine gate_callee (f := 59) rfl ?_); refine goesL_ (some 139) rfl rfl Try.func59 (by kernel_rfl) rfl #[.agg #[.int .u64 t596, .int .u64 t597]] rfl ga ?_; (with_reducible refine (wide_Wide_Zero.calls t596 t597 false _ A81.out).mono ?_); rintro e w90 ⟨rfl, hb⟩; refine ⟨_, rfl, ?_⟩; have n0_ := Aside0.mk (blk_below (g := gb577) (o := .cells #[.int .u64 t575, .int .u64 t576] 55 (0, 0)) (by (with_reducible repeat (first | refine blk_drewN ?_ _ | refine blk_drew ?_ | refine blk_alloc ?_ _)); refine blk_far ?_ NB577_599.out _; (with_reducible repeat (first | refine blk_drewN ?_ _ | refine blk_drew ?_ | refine blk_alloc ?_ _)); refine blk_far ?_ NB577_599.out _; (with_reducible repeat (first | refine blk_drewN ?_ _ | refine blk_drew ?_ | refine blk_alloc ?_ _)); exact BK577.out) hb); have n1_ := Aside0.mk (blk_below (g := gb583) (o := .cells #[.int .u64 x584000_55, .int .u64 x584001_55] 55 (0, 0)) (by (with_reducible repeat (first | refine blk_drewN ?_ _ | refine blk_drew ?_ | refine blk_alloc ?_ _)); refine blk_far ?_ NB583_599.out _; (with_reducible repeat (first | refine blk_drewN ?_ _ | refine blk_drew ?_ | refine blk_alloc ?_ _)); refine blk_far ?_ NB583_599.out _; (with_reducible repeat (first | refine blk_drewN ?_ _ | refine blk_drew ?_ | refine blk_alloc ?_ _)); exact BK583.out) hb); have n2_ := Aside0.mk (blk_below (g := gb599) (o := .cells #[.int .u64 t596, .int .u64 t597] 55 (0, 0)) (by (with_reducible repeat (first | refine blk_drewN ?_ _ | refine blk_drew ?_ | refine blk_alloc ?_ _)); refine blk_put (cs := #[.int .u64 t596, .int .u64 0]) ?_ 1 _ rfl; (with_reducible repeat (first | refine blk_drewN ?_ _ | refine blk_drew ?_ | refine blk_alloc ?_ _)); refine blk_put (cs := #[.int .u64 0, .int .u64 0]) ?_ 0 _ rfl; (with_reducible repeat (first | refine blk_drewN ?_ _ | refine blk_drew ?_ | refine blk_alloc ?_ _)); exact BK599.out) hb); have n3_ := Aside0.mk (below_step bes hb); clear BK577; clear BK583; clear BK599; clear HB; have BK577 := n0_; have BK583 := n1_; have BK599 := n2_; have HB := n3_; clear n0_ n1_ n2_ n3_; (try clear hb)))
                   go_meet
                   case rel => exact ⟨_, (false), (by first | rfl | (simp; done) | (simp [*]; done)), H', ⟨by have := HJ9.out; have := HJ18.out; have := HJ25.out; have := HJ55.out; first | omega | exact Nat.le_refl _⟩, ⟨kb BK577⟩, ⟨kb BK583⟩, ⟨kb BK599⟩, ⟨bes⟩⟩
                 case rest =>
                  clear HC72
                  try clear c1
                  try clear c2
                  try clear p2
                  try clear c3
                  try clear c4
                  try clear c5
                  try clear c6
                  try clear p6
                  try clear c7
                  try clear c8
                  try clear c14
                  try clear c14b0
                  try clear c14b1
                  try clear c15
                  try clear c15b0
                  try clear c15b1
                  try clear c16
                  try clear c17
                  try clear c17b0
                  try clear c17b1
                  try clear c18
                  try clear c18b0
                  try clear c18b1
                  try clear c20
                  try clear c20b0
                  try clear c20b1
                  try clear c21
                  try clear c22
                  try clear c22b0
                  try clear c22b1
                  try clear c23
                  try clear c23b0
                  try clear c23b1
                  try clear c25
                  try clear c26
                  try clear c27
                  try clear c27b0
                  try clear c30
                  try clear c35
                  try clear c35b0
                  try clear c35b1
                  try clear c35b2
                  try clear c37
                  try clear c39
                  try clear c41
                  try clear c45
                  try clear c50
                  try clear c51
                  try clear c53
                  try clear c57
                  try clear c58
                  try clear c59
                  try clear c63
                  try clear p64
                  try clear c65
                  try clear c67
                  try clear c73
                  try clear c78
                  try clear c79
                  try clear c82
                  try clear c83
                  try clear c84
                  try clear c87
                  try clear c88
                  try clear hcz41_0
                  try clear hcz41_1
                  try clear hcz46_0
                  try clear hcz46_1
                  try clear hcz47_0
                  try clear hcz47_1
                  try clear hcz52_0
                  try clear hcz52_1
                  try clear hcz59_0
                  try clear hcz59_1
                  try clear hcz64_0
                  try clear hcz64_1
                  try clear hcz68_0
                  try clear hcz68_1
                  try clear hcz70_0
                  try clear hcz70_1
                  try clear hcz74_0
                  try clear hcz74_1
                  try clear hcz75_0
                  try clear hcz75_1
                  try clear hcz80_0
                  try clear hcz80_1
                  try clear hcz85_0
                  try clear hcz85_1
                  try clear hcz89_0
                  try clear hcz89_1
                  try clear hfz41_0
                  try clear hfz41_1
                  try clear hfz46_0
                  try clear hfz46_1
                  try clear hfz47_0
                  try clear hfz47_1
                  try clear hfz52_0
                  try clear hfz52_1
                  try clear hfz59_0
                  try clear hfz59_1
                  try clear hfz64_0
                  try clear hfz64_1
                  try clear hfz68_0
                  try clear hfz68_1
                  try clear hfz70_0
                  try clear hfz70_1
                  try clear hfz74_0
                  try clear hfz74_1
                  try clear hfz75_0
                  try clear hfz75_1
                  try clear hfz80_0
                  try clear hfz80_1
                  try clear hfz85_0
                  try clear hfz85_1
                  try clear hfz89_0
                  try clear hfz89_1
                  try clear p2
                  try clear p6
                  try clear p64
                  obtain ⟨kq, x143_71, rfl, HA, HJ71, BK577, BK583, BK599, HB⟩ := hcut
                  cases kq with
                  | zero => exact absurd HA.out (by simp [soft_Add.j4])
                  | succ kj71 =>
                   have H := HA.out
                   clear HA
                   simp only [soft_Add.j4] at H
                   by_cases c91 : x143_71 = true
                   ·
                    subst c91
                    rw [if_pos rfl] at H
                    simp only [Option.some.injEq, Prod.mk.injEq] at H
                    obtain ⟨rfl, rfl⟩ := H
                    go_wp2
                    go_ret2
                    exact ⟨er, bes⟩
                   ·
                    replace c91 := Bool.eq_false_iff.mpr c91
                    subst c91
                    rw [if_neg (show ¬ (false = true) by decide)] at H
                    obtain ⟨t601, A920, H⟩ := Option.bind_eq_some_iff.mp H
                    (try dsimp -simprocs only at H)
                    have A92 := Aside0.mk A920
                    clear A920
                    obtain ⟨⟨t602, t603⟩, A930, H⟩ := Option.bind_eq_some_iff.mp H
                    (try dsimp -simprocs only at H)
                    have A93 := Aside0.mk A930
                    clear A930
                    simp only [Option.some.injEq, Prod.mk.injEq] at H
                    obtain ⟨rfl, rfl⟩ := H
                    try go_wp2
                    have n0_ := Aside0.mk (blk_drew BK577.out)
                    have n1_ := Aside0.mk (blk_drew BK583.out)
                    have n2_ := Aside0.mk (blk_drew BK599.out)
                    have n3_ := Aside0.mk (below_drew1 HB.out)
                    clear BK577
                    clear BK583
                    clear BK599
                    clear HB
                    have BK577 := n0_
                    have BK583 := n1_
                    have BK599 := n2_
                    have HB := n3_
                    clear n0_ n1_ n2_ n3_
                    refine start_ (n := 11) (S := fun w' => w'.cell? ⟨gb599, 0, none⟩ = some (.int .u64 t596) ∧ w'.cell? ⟨gb599, 1, none⟩ = some (.int .u64 t597)) (ds := []) #[false, false, false, false, false, false, false, false, false, false, false] (by kernel_rfl) rfl rfl ⟨(blk_cell BK599.out 0).trans rfl, (blk_cell BK599.out 1).trans rfl⟩ (fun hHeld => ?_); refine with_tabW soft_Add.tab31 soft_Add.bits31 (fun HT_ HW_ => ?_)
                    generalize wc.drew = w94 at BK577 BK583 BK599 HB hHeld ⊢
                    refine pure_ (i := 0) (N := some 144) (v := ?_) (a' := ?_) #[true, false, false, false, false, false, false, false, false, false, false] rfl rfl (any_of HT_.out (by kernel_rfl)) (fun _ _ _ h => h) (Or.inl ⟨by rfl, ?_⟩) ?_ ?_
                    rotate_left
                    ·
                     intro w'
                     go_simp
                     with_reducible rfl
                    rotate_left
                    ·
                     simp only [Act.put, List.setIfInBounds_toArray, List.set_cons_zero, List.set_cons_succ, i64_w, i32_w]
                     rfl
                    refine pure_ (i := 3) (N := some 147) (v := ?_) (a' := ?_) #[true, false, false, true, false, false, false, false, false, false, false] rfl rfl (any_of HT_.out (by kernel_rfl)) (fun _ _ _ h => h) (Or.inl ⟨by rfl, ?_⟩) ?_ ?_
                    rotate_left
                    ·
                     intro w'
                     go_simp
                     with_reducible rfl
                    rotate_left
                    ·
                     simp only [Act.put, List.setIfInBounds_toArray, List.set_cons_zero, List.set_cons_succ, i64_w, i32_w]
                     rfl
                    refine pure_ (i := 4) (N := some 148) (v := ?_) (a' := ?_) #[true, false, false, true, true, false, false, false, false, false, false] rfl rfl (any_of HT_.out (by kernel_rfl)) (fun _ _ _ h => h) (Or.inl ⟨by rfl, ?_⟩) ?_ ?_
                    rotate_left
                    ·
                     intro w'
                     go_simp
                     with_reducible rfl
                    rotate_left
                    ·
                     simp only [Act.put, List.setIfInBounds_toArray, List.set_cons_zero, List.set_cons_succ, i64_w, i32_w]
                     rfl
                    refine pure_ (i := 5) (N := some 149) (v := ?_) (a' := ?_) #[true, false, false, true, true, true, false, false, false, false, false] rfl rfl (any_of HT_.out (by kernel_rfl)) (fun _ _ _ h => h) (Or.inl ⟨by rfl, ?_⟩) ?_ ?_
                    rotate_left
                    ·
                     intro w'
                     go_simp
                     with_reducible rfl
                    rotate_left
                    ·
                     simp only [Act.put, List.setIfInBounds_toArray, List.set_cons_zero, List.set_cons_succ, i64_w, i32_w]
                     rfl
                    refine take_ (i := 2) (N := some 146) (v := ?_) (a' := ?_) #[true, false, true, true, true, true, false, false, false, false, false] rfl rfl (take_ofW HT_.out HW_.out (by kernel_rfl)) (fun _ _ _ h => h) (Or.inl ⟨by rfl, ?_⟩) hHeld ?_ ?_
                    rotate_left
                    ·
                     rintro w' ⟨s0, s1⟩
                     go_simp
                     with_reducible rfl
                    rotate_left
                    ·
                     simp only [Act.put, List.setIfInBounds_toArray, List.set_cons_zero, List.set_cons_succ, i64_w, i32_w]
                     rfl
                    refine one_ (i := 1) (N := some 145) #[true, true, true, true, true, true, false, false, false, false, false] rfl rfl (one_of HT_.out (by kernel_rfl)) (by decide) (fun K hK => ?_)
                    refine goes_ Try.func21 (by kernel_rfl) rfl #[.int .u64 x0_25] (by rfl) rfl rfl ga ?_
                    with_reducible refine (word_Neg.calls x0_25 t601 _ A92.out).mono ?_
                    rintro e w' ⟨rfl, ⟨nd, rfl⟩⟩
                    refine ⟨_, rfl, ?_⟩
                    refine hK.out _ _ ⟨(blk_cell BK599.out 0).trans rfl, (blk_cell BK599.out 1).trans rfl⟩ (fun hHeld => ?_)
                    clear hK K
                    refine norm_ (a' := ?_) ?_ ?_
                    rotate_left
                    ·
                     show Act.put _ (some 145) _ = _
                     simp only [Act.put, List.setIfInBounds_toArray, List.set_cons_zero, List.set_cons_succ, i64_w, i32_w]
                     rfl
                    refine one_ (i := 6) (N := some 150) #[true, true, true, true, true, true, true, false, false, false, false] rfl rfl (one_of HT_.out (by kernel_rfl)) (by decide) (fun K hK => ?_)
                    refine goes_ Try.func41 (by kernel_rfl) rfl #[.bool t601, .agg #[.int .u64 t596, .int .u64 t597], .int .i64 (wrap64 (t572 - 64)), .bool t582] (by rfl) rfl rfl ga ?_
                    with_reducible refine (round_Round.calls kj71 t601 t596 t597 (wrap64 (t572 - 64)) t582 t602 t603 _ A93.out).mono ?_
                    rintro e w95 ⟨rfl, hb⟩
                    refine ⟨_, rfl, ?_⟩
                    have n0_ := Aside0.mk (blk_below (g := gb577) (o := .cells #[.int .u64 t575, .int .u64 t576] 55 (0, 0)) (kb BK577) hb)
                    have n1_ := Aside0.mk (blk_below (g := gb583) (o := .cells #[.int .u64 x584000_55, .int .u64 x584001_55] 55 (0, 0)) (kb BK583) hb)
                    have n2_ := Aside0.mk (blk_below (g := gb599) (o := .cells #[.int .u64 t596, .int .u64 t597] 55 (0, 0)) (kb BK599) hb)
                    have n3_ := Aside0.mk (below_step bes hb)
                    clear BK577
                    clear BK583
                    clear BK599
                    clear HB
                    have BK577 := n0_
                    have BK583 := n1_
                    have BK599 := n2_
                    have HB := n3_
                    clear n0_ n1_ n2_ n3_
                    (try clear hb)
                    (try clear hb2)
                    (try clear hk)
                    (try clear hi)
                    refine hK.out _ _ ⟨(blk_cell BK599.out 0).trans rfl, (blk_cell BK599.out 1).trans rfl⟩ (fun hHeld => ?_)
                    clear hK K
                    refine norm_ (a' := ?_) ?_ ?_
                    rotate_left
                    ·
                     show Act.put _ (some 150) _ = _
                     simp only [Act.put, List.setIfInBounds_toArray, List.set_cons_zero, List.set_cons_succ, i64_w, i32_w]
                     rfl
                    refine pure_ (i := 7) (N := some 151) (v := ?_) (a' := ?_) #[true, true, true, true, true, true, true, true, false, false, false] rfl rfl (any_of HT_.out (by kernel_rfl)) (fun _ _ _ h => h) (Or.inl ⟨by rfl, ?_⟩) ?_ ?_
                    rotate_left
                    ·
                     intro w'
                     go_simp
                     with_reducible rfl
                    rotate_left
                    ·
                     simp only [Act.put, List.setIfInBounds_toArray, List.set_cons_zero, List.set_cons_succ, i64_w, i32_w]
                     rfl
                    refine pure_ (i := 8) (N := some 152) (v := ?_) (a' := ?_) #[true, true, true, true, true, true, true, true, true, false, false] rfl rfl (any_of HT_.out (by kernel_rfl)) (fun _ _ _ h => h) (Or.inl ⟨by rfl, ?_⟩) ?_ ?_
                    rotate_left
                    ·
                     intro w'
                     go_simp
                     with_reducible rfl
                    rotate_left
                    ·
                     simp only [Act.put, List.setIfInBounds_toArray, List.set_cons_zero, List.set_cons_succ, i64_w, i32_w]
                     rfl
                    refine pure_ (i := 9) (N := some 4) (v := ?_) (a' := ?_) #[true, true, true, true, true, true, true, true, true, true, false] rfl rfl (any_of HT_.out (by kernel_rfl)) (fun _ _ _ h => h) (Or.inl ⟨by rfl, ?_⟩) ?_ ?_
                    rotate_left
                    ·
                     intro w'
                     go_simp
                     with_reducible rfl
                    rotate_left
                    ·
                     simp only [Act.put, List.setIfInBounds_toArray, List.set_cons_zero, List.set_cons_succ, i64_w, i32_w]
                     rfl
                    refine pure_ (i := 10) (N := some 5) (v := ?_) (a' := ?_) #[true, true, true, true, true, true, true, true, true, true, true] rfl rfl (any_of HT_.out (by kernel_rfl)) (fun _ _ _ h => h) (Or.inl ⟨by rfl, ?_⟩) ?_ ?_
                    rotate_left
                    ·
                     intro w'
                     go_simp
                     with_reducible rfl
                    rotate_left
                    ·
                     simp only [Act.put, List.setIfInBounds_toArray, List.set_cons_zero, List.set_cons_succ, i64_w, i32_w]
                     rfl
                    refine done_ (done_of HT_.out (by kernel_rfl)) ?_
                    try go_wp2
                    go_ret2
                    exact ⟨er, bes⟩

end Go.Proofs.Ytcappkphcjgeoaa.F
