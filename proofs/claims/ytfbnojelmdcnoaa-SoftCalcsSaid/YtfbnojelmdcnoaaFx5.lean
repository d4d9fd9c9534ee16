-- Written by a program of this seat's session (mkprint), out of the translation.
import Derived.Test.YtfbnojelmdcnoaaShort
import Derived.Test.YtfbnojelmdcnoaaFx0
import Derived.Test.YtfbnojelmdcnoaaFx2
import Derived.Test.YtfbnojelmdcnoaaFx3
import Derived.Test.YtfbnojelmdcnoaaFx4
namespace Go.Proofs.Ytfbnojelmdcnoaa.F
open Go.RowKit Go.Proofs.YtfbnojelmdcnoaaW.PrintWords Go.Proofs.YtfbnojelmdcnoaaW.PrintLast Go.Proofs.YtfbnojelmdcnoaaW.PrintMore
attribute [local go_sem] max2_int min2_int max_two min_two max_three min_three max_four min_four   -- for this text's walks alone
set_option linter.unusedVariables false
set_option linter.unusedSimpArgs false

/-! ### bits_Sub64: function 63 -/
def sub64Entry_ : Array Value → Sem Value := fun args => do
 let (x, y, b) ← Extern.MathBitsCarry.three "Sub64" args
 pure (Extern.MathBitsCarry.pair ((x + Extern.MathBitsCarry.m64 - y - b) % Extern.MathBitsCarry.m64) (if x < y + b then 1 else 0))
theorem run_sub64_ {P : Program} (x y b : Nat) (hb : b ≤ 1) (w : World) :
  (sub64Entry_ #[.int .u64 x, .int .u64 y, .int .u64 b]).run P w =
   .ok (.tuple #[.int .u64 (((x + 18446744073709551616 - y - b) % 18446744073709551616 : Nat) : Int), .int .u64 ((if x < y + b then 1 else 0 : Nat) : Int)]) w := by
 have : b = 0 ∨ b = 1 := by omega
 rcases this with rfl | rfl <;> rfl
def bits_Sub64.f (a0 a1 a2 : Int) : Option (Int × Int) := if 0 ≤ a0 ∧ 0 ≤ a1 ∧ a1 < 18446744073709551616 ∧ 0 ≤ a2 ∧ a2 ≤ 1 then (some ((a0 - a1 - a2) % 18446744073709551616, if a0 < a1 + a2 then 1 else 0)) else none
theorem bits_Sub64.run (a0 a1 a2 : Int) (r1 r2 : Int) (w : World) (h : bits_Sub64.f a0 a1 a2 = some (r1, r2)) :
  (callFunc 63 #[.int .u64 a0, .int .u64 a1, .int .u64 a2]).run Try.prog w = .ok (.value (.tuple #[.int .u64 r1, .int .u64 r2])) w := by
 unfold bits_Sub64.f at h
 by_cases hc : 0 ≤ a0 ∧ 0 ≤ a1 ∧ a1 < 18446744073709551616 ∧ 0 ≤ a2 ∧ a2 ≤ 1
 rotate_left
 ·
  rw [if_neg hc] at h; cases h

 rw [if_pos hc] at h
 obtain ⟨h0, h1, h1', h2, h3⟩ := hc
 simp only [Option.some.injEq, Prod.mk.injEq] at h
 obtain ⟨rfl, rfl⟩ := h
 obtain ⟨x, rfl⟩ := Int.eq_ofNat_of_zero_le h0
 obtain ⟨y, rfl⟩ := Int.eq_ofNat_of_zero_le h1
 obtain ⟨b, rfl⟩ := Int.eq_ofNat_of_zero_le h2
 have e1 : (((x + 18446744073709551616 - y - b) % 18446744073709551616 : Nat) : Int) = ((x : Int) - y - b) % 18446744073709551616 := by omega
 have e2 : ((if x < y + b then 1 else 0 : Nat) : Int) = if (x : Int) < y + b then 1 else 0 := by split <;> split <;> omega
 rw [← e1, ← e2]
 rw [run_callFunc_extern Try.func63 (by kernel_rfl) (by kernel_rfl) (by kernel_rfl) (e := sub64Entry_) (by kernel_rfl), run_sub64_ x y b (by omega)]
 rfl
/-! ### wide_Wide_Sub: function 36 -/
def wide_Wide_Sub.f (a0_0 : Int) (a0_1 : Int) (a1_0 : Int) (a1_1 : Int) : Option (Int × Int × Bool) := (bits_Sub64.f a0_1 a1_1 0).bind fun bt160 => ((bits_Sub64.f a0_0 a1_0 bt160.2).bind fun bt162 => (some (bt162.1, bt160.1, (bt162.2 == 1))))
set_option maxHeartbeats 8000000 in
set_option maxRecDepth 100000 in
theorem wide_Wide_Sub.calls (a0_0 : Int) (a0_1 : Int) (a1_0 : Int) (a1_1 : Int) (r1 : Int) (r2 : Int) (r3 : Bool) (w : World) (h : wide_Wide_Sub.f a0_0 a0_1 a1_0 a1_1 = some (r1, r2, r3)) :
  Calls Try.prog 36 #[.agg #[.int .u64 a0_0, .int .u64 a0_1], .agg #[.int .u64 a1_0, .int .u64 a1_1]] w fun e w' => e = .returned (.tuple #[.agg #[.int .u64 r1, .int .u64 r2], .bool r3]) ∧ Below w.heap.size w w' := by
 have hu48 := Try.underlying48
 have HB := Aside0.mk (Below.refl w.heap.size w)
 have H : ((bits_Sub64.f a0_1 a1_1 0).bind fun bt160 => ((bits_Sub64.f a0_0 a1_0 bt160.2).bind fun bt162 => (some (bt162.1, bt160.1, (bt162.2 == 1))))) = some (r1, r2, r3) := h
 clear h
 obtain ⟨⟨t160, t161⟩, A30, H⟩ := Option.bind_eq_some_iff.mp H
 (try dsimp -simprocs only at H)
 have A3 := Aside0.mk A30
 clear A30
 obtain ⟨⟨t162, t163⟩, A40, H⟩ := Option.bind_eq_some_iff.mp H
 (try dsimp -simprocs only at H)
 have A4 := Aside0.mk A40
 clear A40
 simp only [Option.some.injEq, Prod.mk.injEq] at H
 obtain ⟨rfl, rfl, rfl⟩ := H
 go_enter Try.func36, Try.ntmps36
 go_wp2_with (first | ((with_reducible refine gate_dst (N := 2) rfl ?_); refine gbox (N := 2) (cs := #[.int .u64 a0_0, .int .u64 a0_1]) (t := 48) ?_; intro gb157 hg w5 hbox hb; refine ax4 (below_step bel hb) hbox ((ge hg : w.heap.size ≤ gb157)) ((ge hg : w.heap.size ≤ gb157)) ?_; clear HB; intro HB BK157 GW157 GE157; clear hb hbox hg) | ((with_reducible refine gate_dst (N := 3) rfl ?_); refine gbox (N := 3) (cs := #[.int .u64 a1_0, .int .u64 a1_1]) (t := 48) ?_; intro gb158 hg w6 hbox hb; refine ax7 (bb BK157 hb) (below_step bes hb) hbox ((ge hg : w.heap.size ≤ gb158)) ((ge hg : w.heap.size ≤ gb158)) (nl hg BK157) (ng hg BK157) ?_; clear BK157; clear HB; intro BK157 HB BK158 GW158 GE158 NB157_158 NB158_157; clear hb hbox hg) | ((with_reducible refine gate_dst (N := 4) rfl ?_); refine gbox (N := 4) (cs := #[.int .u64 0, .int .u64 0]) (t := 48) ?_; intro gb159 hg w7 hbox hb; refine ax10 (bb BK157 hb) (bb BK158 hb) (below_step bes hb) hbox ((ge hg : w.heap.size ≤ gb159)) ((ge hg : w.heap.size ≤ gb159)) (nl hg BK157) (ng hg BK157) (nl hg BK158) (ng hg BK158) ?_; clear BK157; clear BK158; clear HB; intro BK157 BK158 HB BK159 GW159 GE159 NB157_159 NB159_157 NB158_159 NB159_158; clear hb hbox hg; have hnb8 := NB157_158.out; have hnc8 := NB158_157.out; have hnb9 := NB157_159.out; have hnc9 := NB159_157.out; have hcz10_0 := bc BK157 0 rfl; have hcz10_1 := bc BK157 1 rfl; have hfz10_0 := blk_frozen BK157.out 0; have hfz10_1 := blk_frozen BK157.out 1; have hnb11 := NB158_159.out; have hnc11 := NB159_158.out; have hcz12_0 := bc BK158 0 rfl; have hcz12_1 := bc BK158 1 rfl; have hfz12_0 := blk_frozen BK158.out 0; have hfz12_1 := blk_frozen BK158.out 1) | ((with_reducible refine gate_callee (f := 63) rfl ?_); refine goesX_ (some 14) rfl rfl rfl #[.int .u64 a0_1, .int .u64 a1_1, .int .u64 0] (by (try simp only [List.map_toArray, List.map_cons, List.map_nil]); first | done | rfl) _ (bits_Sub64.run a0_1 a1_1 0 t160 t161 _ A3.out) ?_) | ((with_reducible refine gate_callee (f := 63) rfl ?_); refine goesX_ (some 23) rfl rfl rfl #[.int .u64 a0_0, .int .u64 a1_0, .int .u64 t161] (by (try simp only [List.map_toArray, List.map_cons, List.map_nil]); first | done | rfl) _ (bits_Sub64.run a0_0 a1_0 t161 t162 t163 _ A4.out) ?_; have hcz13_0 := bc BK159 0 rfl; have hcz13_1 := bc BK159 1 rfl; have hfz13_0 := blk_frozen BK159.out 0; have hfz13_1 := blk_frozen BK159.out 1))
 refine bodyPost_ret (results_ct rfl _ _ gb159 48 #[.int .u64 t162, .int .u64 t160] (0, 0) _ rfl (by (with_reducible repeat (first | refine blk_drewN ?_ _ | refine blk_drew ?_ | refine blk_alloc ?_ _)); refine blk_put (cs := #[.int .u64 t162, .int .u64 0]) ?_ 1 _ rfl; (with_reducible repeat (first | refine blk_drewN ?_ _ | refine blk_drew ?_ | refine blk_alloc ?_ _)); refine blk_put (cs := #[.int .u64 0, .int .u64 0]) ?_ 0 _ rfl; (with_reducible repeat (first | refine blk_drewN ?_ _ | refine blk_drew ?_ | refine blk_alloc ?_ _)); exact BK159.out) Try.underlying48 rfl (by kernel_rfl)) rfl ?_
 exact ⟨er, bes⟩

/-! ### soft_Add: function 12 -/
mutual
def soft_Add.j0 : Nat → Int → Int → Int → Int → Bool → Option (Int × Int)
 | 0, _, _, _, _, _ => none
 | k + 1, x0, x1, x9, x10, x37 => if x37 = true then (some (9221120237041090560, 16)) else (if x9 = 4 then (some (x0, 0)) else (if x10 = 4 then (some (x1, 0)) else (if x9 = 1 then (soft_Add.j1 k x0 x1 x9 x10 (x10 == 1)) else (soft_Add.j1 k x0 x1 x9 x10 false))))
def soft_Add.j1 : Nat → Int → Int → Int → Int → Bool → Option (Int × Int)
 | 0, _, _, _, _, _ => none
 | k + 1, x0, x1, x9, x10, x57 => if x57 = true then (some (Go.bits .and .u64 x0 x1, 0)) else (if x9 = 1 then (some (x1, 0)) else (if x10 = 1 then (some (x0, 0)) else ((word_Abs.f x0).bind fun t172 => ((word_Abs.f x1).bind fun t173 => (if t172 < t173 then (soft_Add.j2 k x1 x0) else (soft_Add.j2 k x0 x1))))))
def soft_Add.j2 : Nat → Int → Int → Option (Int × Int)
 | 0, _, _ => none
 | k + 1, x0, x1 => (word_Parts.f k x0).bind fun bt174 => ((word_Parts.f k x1).bind fun bt176 => ((wide_Wide_Left.f 0 bt174.1 64).bind fun bt178 => ((wide_Wide_Left.f 0 bt176.1 64).bind fun bt181 => ((wide_Wide_Right.f k bt181.1 bt181.2 (wrap64 (bt174.2 - bt176.2))).bind fun bt183 => ((word_Neg.f x0).bind fun t187 => ((word_Neg.f x1).bind fun t188 => (if (t187 == t188) = true then ((wide_Wide_Add.f bt178.1 bt178.2 bt183.1 bt183.2.1).bind fun bt189 => ((word_Neg.f x0).bind fun t193 => ((round_Round.f k t193 bt189.1 bt189.2.1 (wrap64 (bt174.2 - 64)) bt183.2.2).bind fun bt194 => (some (bt194.1, bt194.2))))) else (if bt183.2.2 = true then ((wide_Wide_Add.f bt183.1 bt183.2.1 0 1).bind fun bt196 => (soft_Add.j3 k x0 bt174.2 bt183.2.2 bt178.1 bt178.2 bt196.1 bt196.2.1)) else (soft_Add.j3 k x0 bt174.2 bt183.2.2 bt178.1 bt178.2 bt183.1 bt183.2.1)))))))))
def soft_Add.j3 : Nat → Int → Int → Bool → Int → Int → Int → Int → Option (Int × Int)
 | 0, _, _, _, _, _, _, _ => none
 | k + 1, x0, x12, x17, x181000, x181001, x187000, x187001 => (wide_Wide_Sub.f x181000 x181001 x187000 x187001).bind fun bt199 => ((wide_Wide_Zero.f bt199.1 bt199.2.1).bind fun t203 => (if t203 = true then (soft_Add.j4 k x0 x12 x17 (!x17) bt199.1 bt199.2.1) else (soft_Add.j4 k x0 x12 x17 false bt199.1 bt199.2.1)))
def soft_Add.j4 : Nat → Int → Int → Bool → Bool → Int → Int → Option (Int × Int)
 | 0, _, _, _, _, _, _ => none
 | k + 1, x0, x12, x17, x143, x203000, x203001 => if x143 = true then (some (0, 0)) else ((word_Neg.f x0).bind fun t204 => ((round_Round.f k t204 x203000 x203001 (wrap64 (x12 - 64)) x17).bind fun bt205 => (some (bt205.1, bt205.2))))
end
def soft_Add.f (k : Nat) (a0 : Int) (a1 : Int) : Option (Int × Int) := (soft_nan.f k (([a0, a1] : List Int))).bind fun bt167 => (if bt167.2.2 = true then (some (bt167.1, bt167.2.1)) else ((word_Kind.f k a0).bind fun t170 => ((word_Kind.f k a1).bind fun t171 => (if t170 = 4 then (if t171 = 4 then (soft_Add.j0 k a0 a1 t170 t171 (a0 != a1)) else (soft_Add.j0 k a0 a1 t170 t171 false)) else (soft_Add.j0 k a0 a1 t170 t171 false)))))
theorem soft_Add.mono_l : ∀ k, (∀ y0 y1 y2 y3 y4, LeO (soft_Add.j0 k y0 y1 y2 y3 y4) (soft_Add.j0 (k + 1) y0 y1 y2 y3 y4)) ∧ (∀ y0 y1 y2 y3 y4, LeO (soft_Add.j1 k y0 y1 y2 y3 y4) (soft_Add.j1 (k + 1) y0 y1 y2 y3 y4)) ∧ (∀ y0 y1, LeO (soft_Add.j2 k y0 y1) (soft_Add.j2 (k + 1) y0 y1)) ∧ (∀ y0 y1 y2 y3 y4 y5 y6, LeO (soft_Add.j3 k y0 y1 y2 y3 y4 y5 y6) (soft_Add.j3 (k + 1) y0 y1 y2 y3 y4 y5 y6)) ∧ (∀ y0 y1 y2 y3 y4 y5, LeO (soft_Add.j4 k y0 y1 y2 y3 y4 y5) (soft_Add.j4 (k + 1) y0 y1 y2 y3 y4 y5))
 | 0 => ⟨fun _ _ _ _ _ r h => by simp [soft_Add.j0] at h, fun _ _ _ _ _ r h => by simp [soft_Add.j1] at h, fun _ _ r h => by simp [soft_Add.j2] at h, fun _ _ _ _ _ _ _ r h => by simp [soft_Add.j3] at h, fun _ _ _ _ _ _ r h => by simp [soft_Add.j4] at h⟩
 | k + 1 => by
  obtain ⟨ih0, ih1, ih2, ih3, ih4⟩ := soft_Add.mono_l k
  refine ⟨?_, ?_, ?_, ?_, ?_⟩ <;> intros <;> (first | unfold soft_Add.j0 | unfold soft_Add.j1 | unfold soft_Add.j2 | unfold soft_Add.j3 | unfold soft_Add.j4) <;>
   repeat' with_reducible first | apply ih0 | apply ih1 | apply ih2 | apply ih3 | apply ih4 | apply round_Round.mono | apply soft_nan.mono | apply wide_Wide_Right.mono | apply word_Kind.mono | apply word_Parts.mono | exact LeO.refl _ | exact LeO.none _ | refine LeO.ite ?_ ?_ | refine LeO.bind ?_ (fun _ => ?_)
theorem soft_Add.mono : ∀ a0 a1 k, LeO (soft_Add.f k a0 a1) (soft_Add.f (k + 1) a0 a1) := by
 intro a0 a1 k
 obtain ⟨ih0, ih1, ih2, ih3, ih4⟩ := soft_Add.mono_l k
 unfold soft_Add.f
 repeat' with_reducible first | apply ih0 | apply ih1 | apply ih2 | apply ih3 | apply ih4 | apply round_Round.mono | apply soft_nan.mono | apply wide_Wide_Right.mono | apply word_Kind.mono | apply word_Parts.mono | exact LeO.refl _ | exact LeO.none _ | refine LeO.ite ?_ ?_ | refine LeO.bind ?_ (fun _ => ?_)
def soft_Add.T25 : Bool × List (List Nat × List Nat) := (true, [([], []), ([0], [0]), ([], []), ([], []), ([3], [3]), ([], []), ([1, 2, 4, 5, 1], [1, 2, 4, 5]), ([6], [6]), ([6], [6]), ([7, 6, 0, 1, 2, 3, 4, 5, 6, 7, 8], [7]), ([8, 9, 0, 1, 2, 3, 4, 5, 6, 7, 8, 9], [8])])
def soft_Add.B25 : List Nat := [0, 1, 0, 0, 8, 0, 63, 127, 127, 511, 1023]
theorem soft_Add.tab25 : rtab .any (opsOf Try.f12 25) = soft_Add.T25 := by kernel_rfl
theorem soft_Add.bits25 : waitsOk soft_Add.T25.2 soft_Add.B25 = true := by kernel_rfl
def soft_Add.T31 : Bool × List (List Nat × List Nat) := (true, [([], []), ([0], [0]), ([], []), ([], []), ([3], [3]), ([], []), ([1, 2, 4, 5, 1], [1, 2, 4, 5]), ([6], [6]), ([6], [6]), ([7, 6, 0, 1, 2, 3, 4, 5, 6, 7, 8], [7]), ([8, 9, 0, 1, 2, 3, 4, 5, 6, 7, 8, 9], [8])])
def soft_Add.B31 : List Nat := [0, 1, 0, 0, 8, 0, 63, 127, 127, 511, 1023]
theorem soft_Add.tab31 : rtab .any (opsOf Try.f12 31) = soft_Add.T31 := by kernel_rfl
theorem soft_Add.bits31 : waitsOk soft_Add.T31.2 soft_Add.B31 = true := by kernel_rfl
set_option maxHeartbeats 8000000 in
set_option maxRecDepth 100000 in
theorem soft_Add.calls (k : Nat) (a0 : Int) (a1 : Int) (r1 : Int) (r2 : Int) (w : World) (h : soft_Add.f k a0 a1 = some (r1, r2)) :
  Calls Try.prog 12 #[.int .u64 a0, .int .u64 a1] w fun e w' => e = .returned (.tuple #[.int .u64 r1, .int .u8 r2]) ∧ Below w.heap.size w w' := by
 have hu48 := Try.underlying48
 have HB := Aside0.mk (Below.refl w.heap.size w)
 have H : ((soft_nan.f k (([a0, a1] : List Int))).bind fun bt167 => (if bt167.2.2 = true then (some (bt167.1, bt167.2.1)) else ((word_Kind.f k a0).bind fun t170 => ((word_Kind.f k a1).bind fun t171 => (if t170 = 4 then (if t171 = 4 then (soft_Add.j0 k a0 a1 t170 t171 (a0 != a1)) else (soft_Add.j0 k a0 a1 t170 t171 false)) else (soft_Add.j0 k a0 a1 t170 t171 false)))))) = some (r1, r2) := h
 clear h
 obtain ⟨y164, hy164⟩ : ∃ y_ : List Int, y_ = (([a0, a1] : List Int)) := ⟨_, rfl⟩
 replace H : ((soft_nan.f k y164).bind fun bt167 => (if bt167.2.2 = true then (some (bt167.1, bt167.2.1)) else ((word_Kind.f k a0).bind fun t170 => ((word_Kind.f k a1).bind fun t171 => (if t170 = 4 then (if t171 = 4 then (soft_Add.j0 k a0 a1 t170 t171 (a0 != a1)) else (soft_Add.j0 k a0 a1 t170 t171 false)) else (soft_Add.j0 k a0 a1 t170 t171 false)))))) = some (r1, r2) := by first | (rw [hy164]; with_reducible exact H) | (have H2_ := (Option.bind_some _ _).symm.trans H; rw [hy164]; with_reducible exact H2_) | (have H2_ := (Option.bind_some _ _).symm.trans H; with_reducible exact H2_) | with_reducible exact H | (rw [hy164]; exact H) | exact H
 have Ny164 := Aside0.mk hy164
 clear hy164
 obtain ⟨⟨t167, t168, t169⟩, A30, H⟩ := Option.bind_eq_some_iff.mp H
 (try dsimp -simprocs only at H)
 have A3 := Aside0.mk A30
 clear A30
 by_cases c4 : t169 = true
 ·
  subst c4
  rw [if_pos rfl] at H
  simp only [Option.some.injEq, Prod.mk.injEq] at H
  obtain ⟨rfl, rfl⟩ := H
  go_enter Try.func12, Try.ntmps12
  go_wp2_with (first | ((with_reducible refine gate_dst (N := 25) rfl ?_); refine Kd.R_lit (Kd.int .u64) _ 22 ?hg (N := 25) ?hd (xs := ([a0, a1] : List Int)) (inner := [.int .u64 a0, .int .u64 a1]) (ok := fun _ => True) (okp := fun _ => True) ?hr ?hp (fun _ hk => hk) trivial (Below.refl _ _) (Nat.le_refl _) (by simp) ?_; (case hd => rfl); (case hg => rfl); (case hr => first | (go_simp; done) | (go_simp; rfl)); (case hp => exact (Reps.one (show Kd.M (Kd.int .u64) _ _ _ a0 [.int .u64 a0] from rfl) (Reps.one (show Kd.M (Kd.int .u64) _ _ _ a1 [.int .u64 a1] from rfl) (Reps.none _ _)))); intro v165 w5 ho6 hb hg_ hnew_; clear hg_ hnew_; (first | rw [← Ny164.out] at ho6 | (simp only [Int.reduceToNat] at ho6; rw [← Ny164.out] at ho6)); refine ax2 (Kd.R_lower ho6 (below_size bel)) (below_step bel hb) ?_; clear HB; intro HO166 HB; clear hb ho6; obtain ⟨Ao7, co7, eo7⟩ := Kd.R_slice HO166.out; subst eo7) | ((with_reducible refine gate_callee (f := 30) rfl ?_); refine goesL_ (some 26) rfl rfl Try.func30 (by kernel_rfl) rfl #[.slice Ao7 y164.length co7] rfl ga ?_; (with_reducible refine (soft_nan.calls k _ _ y164 t167 t168 true _ ?side1 ?side2 A3.out).mono ?_); (case side1 => exact ks HO166); (case side2 => exact (Kd.R_reads' HO166.out).2.1); rintro e w' ⟨rfl, ⟨nd, rfl⟩⟩; refine ⟨_, rfl, ?_⟩))
  go_ret2
  exact ⟨er, bel⟩
 ·
  replace c4 := Bool.eq_false_iff.mpr c4
  subst c4
  rw [if_neg (show ¬ (false = true) by decide)] at H
  obtain ⟨t170, A80, H⟩ := Option.bind_eq_some_iff.mp H
  (try dsimp -simprocs only at H)
  have A8 := Aside0.mk A80
  clear A80
  obtain ⟨t171, A90, H⟩ := Option.bind_eq_some_iff.mp H
  (try dsimp -simprocs only at H)
  have A9 := Aside0.mk A90
  clear A90
  have HC10 := Aside0.mk H
  clear H
  go_enter Try.func12, Try.ntmps12
  go_upto_region 5 with (first | ((with_reducible refine gate_dst (N := 25) rfl ?_); refine Kd.R_lit (Kd.int .u64) _ 22 ?hg (N := 25) ?hd (xs := ([a0, a1] : List Int)) (inner := [.int .u64 a0, .int .u64 a1]) (ok := fun _ => True) (okp := fun _ => True) ?hr ?hp (fun _ hk => hk) trivial (Below.refl _ _) (Nat.le_refl _) (by simp) ?_; (case hd => rfl); (case hg => rfl); (case hr => first | (go_simp; done) | (go_simp; rfl)); (case hp => exact (Reps.one (show Kd.M (Kd.int .u64) _ _ _ a0 [.int .u64 a0] from rfl) (Reps.one (show Kd.M (Kd.int .u64) _ _ _ a1 [.int .u64 a1] from rfl) (Reps.none _ _)))); intro v165 w11 ho12 hb hg_ hnew_; clear hg_ hnew_; (first | rw [← Ny164.out] at ho12 | (simp only [Int.reduceToNat] at ho12; rw [← Ny164.out] at ho12)); refine ax2 (Kd.R_lower ho12 (below_size bel)) (below_step bel hb) ?_; clear HB; intro HO166 HB; clear hb ho12; obtain ⟨Ao13, co13, eo13⟩ := Kd.R_slice HO166.out; subst eo13) | ((with_reducible refine gate_callee (f := 30) rfl ?_); refine goesL_ (some 26) rfl rfl Try.func30 (by kernel_rfl) rfl #[.slice Ao13 y164.length co13] rfl ga ?_; (with_reducible refine (soft_nan.calls k _ _ y164 t167 t168 false _ ?side1 ?side2 A3.out).mono ?_); (case side1 => exact ks HO166); (case side2 => exact (Kd.R_reads' HO166.out).2.1); rintro e w' ⟨rfl, ⟨nd, rfl⟩⟩; refine ⟨_, rfl, ?_⟩) | ((with_reducible refine gate_callee (f := 23) rfl ?_); refine goesL_ (some 34) rfl rfl Try.func23 (by kernel_rfl) rfl #[.int .u64 a0] rfl ga ?_; (with_reducible refine (word_Kind.calls k a0 t170 _ A8.out).mono ?_); rintro e w' ⟨rfl, ⟨nd, rfl⟩⟩; refine ⟨_, rfl, ?_⟩) | ((with_reducible refine gate_callee (f := 23) rfl ?_); refine goesL_ (some 36) rfl rfl Try.func23 (by kernel_rfl) rfl #[.int .u64 a1] rfl ga ?_; (with_reducible refine (word_Kind.calls k a1 t171 _ A9.out).mono ?_); rintro e w' ⟨rfl, ⟨nd, rfl⟩⟩; refine ⟨_, rfl, ?_⟩))
  (try simp only [Act.put, sa0, sa1, sa2])
  go_cut [37] (fun v37 wc => ∃ (kq : Nat) (x37_9 : Bool), v37 = .bool x37_9 ∧ Aside0 (soft_Add.j0 kq a0 a1 t170 t171 x37_9 = some (r1, r2)) ∧ Aside0 (kq ≤ k) ∧ Aside0 (Below w.heap.size w wc))
  case first =>
   have H := HC10.out
   clear HC10
   by_cases c14 : t170 = 4
   rotate_left
   ·
    rw [if_neg c14] at H
    have c14b0 : (t170 == 4) = false := beq_eq_false_iff_ne.mpr c14
    have c14b1 : (t170 != 4) = true := bne_iff_ne.mpr c14
    (first | rw [c14b0] | (simp only [i64_w, i32_w]; rw [c14b0]) | skip)
    have H' := Aside0.mk H
    clear H
    go_wp2
    go_meet
    case rel => exact ⟨_, (false), (by first | rfl | (simp; done) | (simp [*]; done)), H', ⟨by first | omega | exact Nat.le_refl _⟩, ⟨bel⟩⟩
   rw [if_pos c14] at H
   have c14b0 : (t170 == 4) = true := beq_iff_eq.mpr c14
   have c14b1 : (t170 != 4) = false := bne_eq_false_iff_eq.mpr c14
   clear c14
   (first | rw [c14b0] | (simp only [i64_w, i32_w]; rw [c14b0]) | skip)
   by_cases c15 : t171 = 4
   rotate_left
   ·
    rw [if_neg c15] at H
    have c15b0 : (t171 == 4) = false := beq_eq_false_iff_ne.mpr c15
    have c15b1 : (t171 != 4) = true := bne_iff_ne.mpr c15
    have H' := Aside0.mk H
    clear H
    go_wp2
    go_meet
    case rel => exact ⟨_, (false), (by first | rfl | (simp; done) | (simp [*]; done)), H', ⟨by first | omega | exact Nat.le_refl _⟩, ⟨bel⟩⟩
   rw [if_pos c15] at H
   have c15b0 : (t171 == 4) = true := beq_iff_eq.mpr c15
   have c15b1 : (t171 != 4) = false := bne_eq_false_iff_eq.mpr c15
   clear c15
   have H' := Aside0.mk H
   clear H
   go_wp2
   go_meet
   case rel => exact ⟨_, ((a0 != a1)), (by first | rfl | (simp; done) | (simp [*]; done)), H', ⟨by first | omega | exact Nat.le_refl _⟩, ⟨bel⟩⟩
  case rest =>
   clear HC10
   try clear c1
   try clear c2
   try clear p2
   try clear c3
   try clear c4
   try clear c12
   try clear c14
   try clear c14b0
   try clear c14b1
   try clear c15
   try clear c15b0
   try clear c15b1
   obtain ⟨kq, x37_9, rfl, HA, HJ9, HB⟩ := hcut
   cases kq with
   | zero => exact absurd HA.out (by simp [soft_Add.j0])
   | succ kj9 =>
    have H := HA.out
    clear HA
    simp only [soft_Add.j0] at H
    by_cases c16 : x37_9 = true
    ·
     subst c16
     rw [if_pos rfl] at H
     simp only [Option.some.injEq, Prod.mk.injEq] at H
     obtain ⟨rfl, rfl⟩ := H
     go_wp2
     go_ret2
     exact ⟨er, bel⟩
    ·
     replace c16 := Bool.eq_false_iff.mpr c16
     subst c16
     rw [if_neg (show ¬ (false = true) by decide)] at H
     by_cases c17 : t170 = 4
     ·
      rw [if_pos c17] at H
      have c17b0 : (t170 == 4) = true := beq_iff_eq.mpr c17
      have c17b1 : (t170 != 4) = false := bne_eq_false_iff_eq.mpr c17
      clear c17
      simp only [Option.some.injEq, Prod.mk.injEq] at H
      obtain ⟨rfl, rfl⟩ := H
      go_wp2
      go_ret2
      exact ⟨er, bel⟩
     ·
      rw [if_neg c17] at H
      have c17b0 : (t170 == 4) = false := beq_eq_false_iff_ne.mpr c17
      have c17b1 : (t170 != 4) = true := bne_iff_ne.mpr c17
      by_cases c18 : t171 = 4
      ·
       rw [if_pos c18] at H
       have c18b0 : (t171 == 4) = true := beq_iff_eq.mpr c18
       have c18b1 : (t171 != 4) = false := bne_eq_false_iff_eq.mpr c18
       clear c18
       simp only [Option.some.injEq, Prod.mk.injEq] at H
       obtain ⟨rfl, rfl⟩ := H
       go_wp2
       go_ret2
       exact ⟨er, bel⟩
      ·
       rw [if_neg c18] at H
       have c18b0 : (t171 == 4) = false := beq_eq_false_iff_ne.mpr c18
       have c18b1 : (t171 != 4) = true := bne_iff_ne.mpr c18
       have HC19 := Aside0.mk H
       clear H
       go_upto_region 11 with (fail)
       go_cut [57] (fun v57 wc => ∃ (kq : Nat) (x57_18 : Bool), v57 = .bool x57_18 ∧ Aside0 (soft_Add.j1 kq a0 a1 t170 t171 x57_18 = some (r1, r2)) ∧ Aside0 (kq ≤ kj9) ∧ Aside0 (Below w.heap.size w wc))
       case first =>
        have H := HC19.out
        clear HC19
        by_cases c20 : t170 = 1
        rotate_left
        ·
         rw [if_neg c20] at H
         have c20b0 : (t170 == 1) = false := beq_eq_false_iff_ne.mpr c20
         have c20b1 : (t170 != 1) = true := bne_iff_ne.mpr c20
         (first | rw [c20b0] | (simp only [i64_w, i32_w]; rw [c20b0]) | skip)
         have H' := Aside0.mk H
         clear H
         go_wp2
         go_meet
         case rel => exact ⟨_, (false), (by first | rfl | (simp; done) | (simp [*]; done)), H', ⟨by have := HJ9.out; first | omega | exact Nat.le_refl _⟩, ⟨bel⟩⟩
        rw [if_pos c20] at H
        have c20b0 : (t170 == 1) = true := beq_iff_eq.mpr c20
        have c20b1 : (t170 != 1) = false := bne_eq_false_iff_eq.mpr c20
        clear c20
        (first | rw [c20b0] | (simp only [i64_w, i32_w]; rw [c20b0]) | skip)
        have H' := Aside0.mk H
        clear H
        go_wp2
        go_meet
        case rel => exact ⟨_, ((t171 == 1)), (by first | rfl | (simp; done) | (simp [*]; done)), H', ⟨by have := HJ9.out; first | omega | exact Nat.le_refl _⟩, ⟨bel⟩⟩
       case rest =>
        clear HC19
        try clear c1
        try clear c2
        try clear p2
        try clear c3
        try clear c4
        try clear c12
        try clear c14
        try clear c14b0
        try clear c14b1
        try clear c15
        try clear c15b0
        try clear c15b1
        try clear c16
        try clear c17
        try clear c17b0
        try clear c17b1
        try clear c18
        try clear c18b0
        try clear c18b1
        try clear c20
        try clear c20b0
        try clear c20b1
        try clear p2
        obtain ⟨kq, x57_18, rfl, HA, HJ18, HB⟩ := hcut
        cases kq with
        | zero => exact absurd HA.out (by simp [soft_Add.j1])
        | succ kj18 =>
         have H := HA.out
         clear HA
         simp only [soft_Add.j1] at H
         by_cases c21 : x57_18 = true
         ·
          subst c21
          rw [if_pos rfl] at H
          simp only [Option.some.injEq, Prod.mk.injEq] at H
          obtain ⟨rfl, rfl⟩ := H
          go_wp2
          go_ret2
          exact ⟨er, bel⟩
         ·
          replace c21 := Bool.eq_false_iff.mpr c21
          subst c21
          rw [if_neg (show ¬ (false = true) by decide)] at H
          by_cases c22 : t170 = 1
          ·
           rw [if_pos c22] at H
           have c22b0 : (t170 == 1) = true := beq_iff_eq.mpr c22
           have c22b1 : (t170 != 1) = false := bne_eq_false_iff_eq.mpr c22
           clear c22
           simp only [Option.some.injEq, Prod.mk.injEq] at H
           obtain ⟨rfl, rfl⟩ := H
           go_wp2
           go_ret2
           exact ⟨er, bel⟩
          ·
           rw [if_neg c22] at H
           have c22b0 : (t170 == 1) = false := beq_eq_false_iff_ne.mpr c22
           have c22b1 : (t170 != 1) = true := bne_iff_ne.mpr c22
           by_cases c23 : t171 = 1
           ·
            rw [if_pos c23] at H
            have c23b0 : (t171 == 1) = true := beq_iff_eq.mpr c23
            have c23b1 : (t171 != 1) = false := bne_eq_false_iff_eq.mpr c23
            clear c23
            simp only [Option.some.injEq, Prod.mk.injEq] at H
            obtain ⟨rfl, rfl⟩ := H
            go_wp2
            go_ret2
            exact ⟨er, bel⟩
           ·
            rw [if_neg c23] at H
            have c23b0 : (t171 == 1) = false := beq_eq_false_iff_ne.mpr c23
            have c23b1 : (t171 != 1) = true := bne_iff_ne.mpr c23
            obtain ⟨t172, A240, H⟩ := Option.bind_eq_some_iff.mp H
            (try dsimp -simprocs only at H)
            have A24 := Aside0.mk A240
            clear A240
            obtain ⟨t173, A250, H⟩ := Option.bind_eq_some_iff.mp H
            (try dsimp -simprocs only at H)
            have A25 := Aside0.mk A250
            clear A250
            have HC26 := Aside0.mk H
            clear H
            go_upto_if 79 with (first | ((with_reducible refine gate_callee (f := 20) rfl ?_); refine goesL_ (some 76) rfl rfl Try.func20 (by kernel_rfl) rfl #[.int .u64 a0] rfl ga ?_; (with_reducible refine (word_Abs.calls a0 t172 _ A24.out).mono ?_); rintro e w' ⟨rfl, ⟨nd, rfl⟩⟩; refine ⟨_, rfl, ?_⟩) | ((with_reducible refine gate_callee (f := 20) rfl ?_); refine goesL_ (some 78) rfl rfl Try.func20 (by kernel_rfl) rfl #[.int .u64 a1] rfl ga ?_; (with_reducible refine (word_Abs.calls a1 t173 _ A25.out).mono ?_); rintro e w' ⟨rfl, ⟨nd, rfl⟩⟩; refine ⟨_, rfl, ?_⟩))
            (try simp only [Act.put, sa0, sa1, sa2])
            go_cut [0, 1] (fun v0 v1 wc => ∃ (kq : Nat) (x0_25 : Int) (x1_25 : Int), v0 = .int .u64 x0_25 ∧ v1 = .int .u64 x1_25 ∧ Aside0 (soft_Add.j2 kq x0_25 x1_25 = some (r1, r2)) ∧ Aside0 (kq ≤ kj18) ∧ Aside0 (Below w.heap.size w wc))
            case first =>
             have H := HC26.out
             clear HC26
             by_cases c27 : t172 < t173
             rotate_left
             ·
              rw [if_neg c27] at H
              have c27b0 : decide (t172 < t173) = false := decide_eq_false c27
              clear c27
              (first | rw [c27b0] | (simp only [i64_w, i32_w]; rw [c27b0]) | skip)
              have H' := Aside0.mk H
              clear H
              go_wp2
              go_meet
              case rel => exact ⟨_, (a0), (a1), (by first | rfl | (simp; done) | (simp [*]; done)), (by first | rfl | (simp; done) | (simp [*]; done)), H', ⟨by have := HJ9.out; have := HJ18.out; first | omega | exact Nat.le_refl _⟩, ⟨bel⟩⟩
             rw [if_pos c27] at H
             have c27b0 : decide (t172 < t173) = true := decide_eq_true c27
             clear c27
             (first | rw [c27b0] | (simp only [i64_w, i32_w]; rw [c27b0]) | skip)
             have H' := Aside0.mk H
             clear H
             go_wp2
             go_meet
             case rel => exact ⟨_, (a1), (a0), (by first | rfl | (simp; done) | (simp [*]; done)), (by first | rfl | (simp; done) | (simp [*]; done)), H', ⟨by have := HJ9.out; have := HJ18.out; first | omega | exact Nat.le_refl _⟩, ⟨bel⟩⟩
            case rest =>
             clear HC26
             try clear c1
             try clear c2
             try clear p2
             try clear c3
             try clear c4
             try clear c12
             try clear c14
             try clear c14b0
             try clear c14b1
             try clear c15
             try clear c15b0
             try clear c15b1
             try clear c16
             try clear c17
             try clear c17b0
             try clear c17b1
             try clear c18
             try clear c18b0
             try clear c18b1
             try clear c20
             try clear c20b0
             try clear c20b1
             try clear c21
             try clear c22
             try clear c22b0
             try clear c22b1
             try clear c23
             try clear c23b0
             try clear c23b1
             try clear c27
             try clear c27b0
             try clear p2
             obtain ⟨kq, x0_25, x1_25, rfl, rfl, HA, HJ25, HB⟩ := hcut
             cases kq with
             | zero => exact absurd HA.out (by simp [soft_Add.j2])
             | succ kj25 =>
              have H := HA.out
              clear HA
              simp only [soft_Add.j2] at H
              obtain ⟨⟨t174, t175⟩, A280, H⟩ := Option.bind_eq_some_iff.mp H
              (try dsimp -simprocs only at H)
              have A28 := Aside0.mk A280
              clear A280
              obtain ⟨⟨t176, t177⟩, A290, H⟩ := Option.bind_eq_some_iff.mp H
              (try dsimp -simprocs only at H)
              have A29 := Aside0.mk A290
              clear A290
              obtain ⟨⟨t178, t179⟩, A300, H⟩ := Option.bind_eq_some_iff.mp H
              (try dsimp -simprocs only at H)
              have A30 := Aside0.mk A300
              clear A300
              obtain ⟨⟨t181, t182⟩, A310, H⟩ := Option.bind_eq_some_iff.mp H
              (try dsimp -simprocs only at H)
              have A31 := Aside0.mk A310
              clear A310
              obtain ⟨⟨t183, t184, t185⟩, A320, H⟩ := Option.bind_eq_some_iff.mp H
              (try dsimp -simprocs only at H)
              have A32 := Aside0.mk A320
              clear A320
              obtain ⟨t187, A330, H⟩ := Option.bind_eq_some_iff.mp H
              (try dsimp -simprocs only at H)
              have A33 := Aside0.mk A330
              clear A330
              obtain ⟨t188, A340, H⟩ := Option.bind_eq_some_iff.mp H
              (try dsimp -simprocs only at H)
              have A34 := Aside0.mk A340
              clear A340
              by_cases c35 : (t187 == t188) = true
              ·
               rw [if_pos c35] at H
               have c35b0 : (t187 == t188) = true := c35
               (try (have c35b1 : decide (t187 = t188) = true := by simpa using c35))
               (try (have c35b2 : (t187 == t188) = true := by simpa using c35))
               clear c35
               obtain ⟨⟨t189, t190, t191⟩, A360, H⟩ := Option.bind_eq_some_iff.mp H
               (try dsimp -simprocs only at H)
               have A36 := Aside0.mk A360
               clear A360
               obtain ⟨t193, A370, H⟩ := Option.bind_eq_some_iff.mp H
               (try dsimp -simprocs only at H)
               have A37 := Aside0.mk A370
               clear A370
               obtain ⟨⟨t194, t195⟩, A380, H⟩ := Option.bind_eq_some_iff.mp H
               (try dsimp -simprocs only at H)
               have A38 := Aside0.mk A380
               clear A380
               simp only [Option.some.injEq, Prod.mk.injEq] at H
               obtain ⟨rfl, rfl⟩ := H
               try go_wp2_with (first | ((with_reducible refine gate_callee (f := 31) rfl ?_); refine goesL_ (some 84) rfl rfl Try.func31 (by kernel_rfl) rfl #[.int .u64 x0_25] rfl ga ?_; (with_reducible refine (word_Parts.calls kj25 x0_25 t174 t175 _ A28.out).mono ?_); rintro e w' ⟨rfl, ⟨nd, rfl⟩⟩; refine ⟨_, rfl, ?_⟩; (try (rw [drewN_self wc]; generalize hq_ : World.drewN wc _ = wc; have n0_ : Aside0 (Below w.heap.size w wc) := ⟨by rw [← hq_]; exact bel⟩; clear HB hq_; have HB := n0_; clear n0_))) | ((with_reducible refine gate_callee (f := 31) rfl ?_); refine goesL_ (some 89) rfl rfl Try.func31 (by kernel_rfl) rfl #[.int .u64 x1_25] rfl ga ?_; (with_reducible refine (word_Parts.calls kj25 x1_25 t176 t177 _ A29.out).mono ?_); rintro e w' ⟨rfl, ⟨nd, rfl⟩⟩; refine ⟨_, rfl, ?_⟩; (try (rw [drewN_self wc]; generalize hq_ : World.drewN wc _ = wc; have n0_ : Aside0 (Below w.heap.size w wc) := ⟨by rw [← hq_]; exact bel⟩; clear HB hq_; have HB := n0_; clear n0_))) | ((with_reducible refine gate_callee (f := 32) rfl ?_); refine goesL_ (some 94) rfl rfl Try.func32 (by kernel_rfl) rfl #[.agg #[.int .u64 0, .int .u64 t174], .int .i64 64] rfl ga ?_; (with_reducible refine (wide_Wide_Left.calls 0 t174 64 t178 t179 _ A30.out).mono ?_); rintro e w39 ⟨rfl, hb⟩; refine ⟨_, rfl, ?_⟩; refine ax1 (below_step bel hb) ?_; clear HB; intro HB; (try clear hb)) | ((with_reducible refine gate_dst (N := 15) rfl ?_); refine gbox (N := 15) (cs := #[.int .u64 0, .int .u64 0]) (t := 48) ?_; intro gb180 hg w40 hbox hb; refine ax4 (below_step bel hb) hbox ((ge hg : w.heap.size ≤ gb180)) ((ge hg : w.heap.size ≤ gb180)) ?_; clear HB; intro HB BK180 GW180 GE180; clear hb hbox hg; have hcz41_0 := bc BK180 0 rfl; have hcz41_1 := bc BK180 1 rfl; have hfz41_0 := blk_frozen BK180.out 0; have hfz41_1 := blk_frozen BK180.out 1) | ((with_reducible refine gate_callee (f := 32) rfl ?_); refine goesL_ (some 98) rfl rfl Try.func32 (by kernel_rfl) rfl #[.agg #[.int .u64 0, .int .u64 t176], .int .i64 64] rfl ga ?_; (with_reducible refine (wide_Wide_Left.calls 0 t176 64 t181 t182 _ A31.out).mono ?_); rintro e w42 ⟨rfl, hb⟩; refine ⟨_, rfl, ?_⟩; refine ax2 (blk_below (g := gb180) (o := .cells #[.int .u64 t178, .int .u64 t179] 48 (0, 0)) (by (with_reducible repeat (first | refine blk_drewN ?_ _ | refine blk_drew ?_ | refine blk_alloc ?_ _)); refine blk_put (cs := #[.int .u64 t178, .int .u64 0]) ?_ 1 _ rfl; (with_reducible repeat (first | refine blk_drewN ?_ _ | refine blk_drew ?_ | refine blk_alloc ?_ _)); refine blk_put (cs := #[.int .u64 0, .int .u64 0]) ?_ 0 _ rfl; (with_reducible repeat (first | refine blk_drewN ?_ _ | refine blk_drew ?_ | refine blk_alloc ?_ _)); exact BK180.out) hb) (below_step bes hb) ?_; clear BK180; clear HB; intro BK180 HB; (try clear hb)) | ((with_reducible refine gate_callee (f := 33) rfl ?_); refine goesL_ (some 102) rfl rfl Try.func33 (by kernel_rfl) rfl #[.agg #[.int .u64 t181, .int .u64 t182], .int .i64 (wrap64 (t175 - t177))] rfl ga ?_; (with_reducible refine (wide_Wide_Right.calls kj25 t181 t182 (wrap64 (t175 - t177)) t183 t184 t185 _ A32.out).mono ?_); rintro e w43 ⟨rfl, hb⟩; refine ⟨_, rfl, ?_⟩; refine ax2 (bb BK180 hb) (below_step bes hb) ?_; clear BK180; clear HB; intro BK180 HB; (try clear hb)) | ((with_reducible refine gate_dst (N := 16) rfl ?_); refine gbox (N := 16) (cs := #[.int .u64 0, .int .u64 0]) (t := 48) ?_; intro gb186 hg w44 hbox hb; refine ax7 (bb BK180 hb) (below_step bes hb) hbox ((ge hg : w.heap.size ≤ gb186)) ((ge hg : w.heap.size ≤ gb186)) (nl hg BK180) (ng hg BK180) ?_; clear BK180; clear HB; intro BK180 HB BK186 GW186 GE186 NB180_186 NB186_180; clear hb hbox hg; have hnb45 := NB186_180.out; have hnc45 := NB180_186.out; have hcz46_0 := bc BK186 0 rfl; have hcz46_1 := bc BK186 1 rfl; have hfz46_0 := blk_frozen BK186.out 0; have hfz46_1 := blk_frozen BK186.out 1) | ((with_reducible refine gate_callee (f := 19) rfl ?_); refine goesL_ (some 106) rfl rfl Try.func19 (by kernel_rfl) rfl #[.int .u64 x0_25] rfl ga ?_; (with_reducible refine (word_Neg.calls x0_25 t187 _ A33.out).mono ?_); rintro e w' ⟨rfl, ⟨nd, rfl⟩⟩; refine ⟨_, rfl, ?_⟩) | ((with_reducible refine gate_callee (f := 19) rfl ?_); refine goesL_ (some 108) rfl rfl Try.func19 (by kernel_rfl) rfl #[.int .u64 x1_25] rfl ga ?_; (with_reducible refine (word_Neg.calls x1_25 t188 _ A34.out).mono ?_); rintro e w' ⟨rfl, ⟨nd, rfl⟩⟩; refine ⟨_, rfl, ?_⟩; have hcz47_0 := bc BK180 0 rfl; have hcz47_1 := bc BK180 1 rfl; have hfz47_0 := blk_frozen BK180.out 0; have hfz47_1 := blk_frozen BK180.out 1) | ((with_reducible refine gate_callee (f := 34) rfl ?_); refine goesL_ (some 113) rfl rfl Try.func34 (by kernel_rfl) rfl #[.agg #[.int .u64 t178, .int .u64 t179], .agg #[.int .u64 t183, .int .u64 t184]] rfl ga ?_; (with_reducible refine (wide_Wide_Add.calls t178 t179 t183 t184 t189 t190 t191 _ A36.out).mono ?_); rintro e w48 ⟨rfl, hb⟩; refine ⟨_, rfl, ?_⟩; refine ax3 (blk_below (g := gb180) (o := .cells #[.int .u64 t178, .int .u64 t179] 48 (0, 0)) (by (with_reducible repeat (first | refine blk_drewN ?_ _ | refine blk_drew ?_ | refine blk_alloc ?_ _)); refine blk_far ?_ NB180_186.out _; (with_reducible repeat (first | refine blk_drewN ?_ _ | refine blk_drew ?_ | refine blk_alloc ?_ _)); refine blk_far ?_ NB180_186.out _; (with_reducible repeat (first | refine blk_drewN ?_ _ | refine blk_drew ?_ | refine blk_alloc ?_ _)); exact BK180.out) hb) (blk_below (g := gb186) (o := .cells #[.int .u64 t183, .int .u64 t184] 48 (0, 0)) (by (with_reducible repeat (first | refine blk_drewN ?_ _ | refine blk_drew ?_ | refine blk_alloc ?_ _)); refine blk_put (cs := #[.int .u64 t183, .int .u64 0]) ?_ 1 _ rfl; (with_reducible repeat (first | refine blk_drewN ?_ _ | refine blk_drew ?_ | refine blk_alloc ?_ _)); refine blk_put (cs := #[.int .u64 0, .int .u64 0]) ?_ 0 _ rfl; (with_reducible repeat (first | refine blk_drewN ?_ _ | refine blk_drew ?_ | refine blk_alloc ?_ _)); exact BK186.out) hb) (below_step bes hb) ?_; clear BK180; clear BK186; clear HB; intro BK180 BK186 HB; (try clear hb)) | ((with_reducible refine gate_dst (N := 18) rfl ?_); refine gbox (N := 18) (cs := #[.int .u64 0, .int .u64 0]) (t := 48) ?_; intro gb192 hg w49 hbox hb; refine ax10 (bb BK180 hb) (bb BK186 hb) (below_step bes hb) hbox ((ge hg : w.heap.size ≤ gb192)) ((ge hg : w.heap.size ≤ gb192)) (nl hg BK180) (ng hg BK180) (nl hg BK186) (ng hg BK186) ?_; clear BK180; clear BK186; clear HB; intro BK180 BK186 HB BK192 GW192 GE192 NB180_192 NB192_180 NB186_192 NB192_186; clear hb hbox hg; have hnb50 := NB192_180.out; have hnc50 := NB180_192.out; have hnb51 := NB192_186.out; have hnc51 := NB186_192.out; have hcz52_0 := bc BK192 0 rfl; have hcz52_1 := bc BK192 1 rfl; have hfz52_0 := blk_frozen BK192.out 0; have hfz52_1 := blk_frozen BK192.out 1))
               have n0_ : Aside0 (((w49.setCell ⟨gb192, 0, none⟩ (.int .u64 t189)).setCell ⟨gb192, 1, none⟩ (.int .u64 t190)).heap[gb180]? = some (.cells #[.int .u64 t178, .int .u64 t179] 48 (0, 0))) := ⟨by (with_reducible repeat (first | refine blk_drewN ?_ _ | refine blk_drew ?_ | refine blk_alloc ?_ _)); refine blk_far ?_ NB180_192.out _; (with_reducible repeat (first | refine blk_drewN ?_ _ | refine blk_drew ?_ | refine blk_alloc ?_ _)); refine blk_far ?_ NB180_192.out _; (with_reducible repeat (first | refine blk_drewN ?_ _ | refine blk_drew ?_ | refine blk_alloc ?_ _)); exact BK180.out⟩
               have n1_ : Aside0 (((w49.setCell ⟨gb192, 0, none⟩ (.int .u64 t189)).setCell ⟨gb192, 1, none⟩ (.int .u64 t190)).heap[gb186]? = some (.cells #[.int .u64 t183, .int .u64 t184] 48 (0, 0))) := ⟨by (with_reducible repeat (first | refine blk_drewN ?_ _ | refine blk_drew ?_ | refine blk_alloc ?_ _)); refine blk_far ?_ NB186_192.out _; (with_reducible repeat (first | refine blk_drewN ?_ _ | refine blk_drew ?_ | refine blk_alloc ?_ _)); refine blk_far ?_ NB186_192.out _; (with_reducible repeat (first | refine blk_drewN ?_ _ | refine blk_drew ?_ | refine blk_alloc ?_ _)); exact BK186.out⟩
               have n2_ : Aside0 (((w49.setCell ⟨gb192, 0, none⟩ (.int .u64 t189)).setCell ⟨gb192, 1, none⟩ (.int .u64 t190)).heap[gb192]? = some (.cells #[.int .u64 t189, .int .u64 t190] 48 (0, 0))) := ⟨by (with_reducible repeat (first | refine blk_drewN ?_ _ | refine blk_drew ?_ | refine blk_alloc ?_ _)); refine blk_put (cs := #[.int .u64 t189, .int .u64 0]) ?_ 1 _ rfl; (with_reducible repeat (first | refine blk_drewN ?_ _ | refine blk_drew ?_ | refine blk_alloc ?_ _)); refine blk_put (cs := #[.int .u64 0, .int .u64 0]) ?_ 0 _ rfl; (with_reducible repeat (first | refine blk_drewN ?_ _ | refine blk_drew ?_ | refine blk_alloc ?_ _)); exact BK192.out⟩
               have n3_ : Aside0 (Below w.heap.size w ((w49.setCell ⟨gb192, 0, none⟩ (.int .u64 t189)).setCell ⟨gb192, 1, none⟩ (.int .u64 t190))) := ⟨bes⟩
               (try clear BK180)
               (try clear BK186)
               (try clear BK192)
               (try clear HB)
               generalize ((w49.setCell ⟨gb192, 0, none⟩ (.int .u64 t189)).setCell ⟨gb192, 1, none⟩ (.int .u64 t190)) = w53 at n0_ n1_ n2_ n3_ ⊢
               have BK180 := n0_
               have BK186 := n1_
               have BK192 := n2_
               have HB := n3_
               clear n0_ n1_ n2_ n3_
               refine ax4 (blk_drew BK180.out) (blk_drew BK186.out) (blk_drew BK192.out) (below_drew1 HB.out) ?_
               clear BK180 BK186 BK192 HB
               intro BK180 BK186 BK192 HB
               refine start_ (n := 11) (S := fun w' => w'.cell? ⟨gb192, 0, none⟩ = some (.int .u64 t189) ∧ w'.cell? ⟨gb192, 1, none⟩ = some (.int .u64 t190)) (ds := []) #[false, false, false, false, false, false, false, false, false, false, false] (by kernel_rfl) rfl rfl ⟨(blk_cell BK192.out 0).trans rfl, (blk_cell BK192.out 1).trans rfl⟩ (fun hHeld => ?_); refine with_tabW soft_Add.tab25 soft_Add.bits25 (fun HT_ HW_ => ?_)
               generalize w53.drew = w54 at BK180 BK186 BK192 HB hHeld ⊢
               refine pure_ (i := 0) (N := some 116) (v := ?_) (a' := ?_) #[true, false, false, false, false, false, false, false, false, false, false] rfl rfl (any_of HT_.out (by kernel_rfl)) (fun _ _ _ h => h) (Or.inl ⟨by rfl, ?_⟩) ?_ ?_
               rotate_left
               ·
                intro w'
                go_simp
                with_reducible rfl
               rotate_left
               ·
                simp only [Act.put, sa0, sa1, sa2, i64_w, i32_w]
                rfl
               refine pure_ (i := 3) (N := some 119) (v := ?_) (a' := ?_) #[true, false, false, true, false, false, false, false, false, false, false] rfl rfl (any_of HT_.out (by kernel_rfl)) (fun _ _ _ h => h) (Or.inl ⟨by rfl, ?_⟩) ?_ ?_
               rotate_left
               ·
                intro w'
                go_simp
                with_reducible rfl
               rotate_left
               ·
                simp only [Act.put, sa0, sa1, sa2, i64_w, i32_w]
                rfl
               refine pure_ (i := 4) (N := some 120) (v := ?_) (a' := ?_) #[true, false, false, true, true, false, false, false, false, false, false] rfl rfl (any_of HT_.out (by kernel_rfl)) (fun _ _ _ h => h) (Or.inl ⟨by rfl, ?_⟩) ?_ ?_
               rotate_left
               ·
                intro w'
                go_simp
                with_reducible rfl
               rotate_left
               ·
                simp only [Act.put, sa0, sa1, sa2, i64_w, i32_w]
                rfl
               refine pure_ (i := 5) (N := some 121) (v := ?_) (a' := ?_) #[true, false, false, true, true, true, false, false, false, false, false] rfl rfl (any_of HT_.out (by kernel_rfl)) (fun _ _ _ h => h) (Or.inl ⟨by rfl, ?_⟩) ?_ ?_
               rotate_left
               ·
                intro w'
                go_simp
                with_reducible rfl
               rotate_left
               ·
                simp only [Act.put, sa0, sa1, sa2, i64_w, i32_w]
                rfl
               refine take_ (i := 2) (N := some 118) (v := ?_) (a' := ?_) #[true, false, true, true, true, true, false, false, false, false, false] rfl rfl (take_ofW HT_.out HW_.out (by kernel_rfl)) (fun _ _ _ h => h) (Or.inl ⟨by rfl, ?_⟩) hHeld ?_ ?_
               rotate_left
               ·
                rintro w' ⟨s0, s1⟩
                go_simp
                with_reducible rfl
               rotate_left
               ·
                simp only [Act.put, sa0, sa1, sa2, i64_w, i32_w]
                rfl
               refine one_ (i := 1) (N := some 117) #[true, true, true, true, true, true, false, false, false, false, false] rfl rfl (one_of HT_.out (by kernel_rfl)) (by decide) (fun K hK => ?_)
               refine goes_ Try.func19 (by kernel_rfl) rfl #[.int .u64 x0_25] (by rfl) rfl rfl ga ?_
               with_reducible refine (word_Neg.calls x0_25 t193 _ A37.out).mono ?_
               rintro e w' ⟨rfl, ⟨nd, rfl⟩⟩
               refine ⟨_, rfl, ?_⟩
               refine hK.out _ _ ⟨(blk_cell BK192.out 0).trans rfl, (blk_cell BK192.out 1).trans rfl⟩ (fun hHeld => ?_)
               clear hK K
               refine norm_ (a' := ?_) ?_ ?_
               rotate_left
               ·
                show Act.put _ (some 117) _ = _
                simp only [Act.put, sa0, sa1, sa2, i64_w, i32_w]
                rfl
               refine one_ (i := 6) (N := some 122) #[true, true, true, true, true, true, true, false, false, false, false] rfl rfl (one_of HT_.out (by kernel_rfl)) (by decide) (fun K hK => ?_)
               refine goes_ Try.func35 (by kernel_rfl) rfl #[.bool t193, .agg #[.int .u64 t189, .int .u64 t190], .int .i64 (wrap64 (t175 - 64)), .bool t185] (by rfl) rfl rfl ga ?_
               with_reducible refine (round_Round.calls kj25 t193 t189 t190 (wrap64 (t175 - 64)) t185 t194 t195 _ A38.out).mono ?_
               rintro e w55 ⟨rfl, hb⟩
               refine ⟨_, rfl, ?_⟩
               refine ax4 (bb BK180 hb) (bb BK186 hb) (bb BK192 hb) (below_step bes hb) ?_
               clear BK180 BK186 BK192 HB
               intro BK180 BK186 BK192 HB
               (try clear hb)
               (try clear hb2)
               (try clear hk)
               (try clear hi)
               refine hK.out _ _ ⟨(blk_cell BK192.out 0).trans rfl, (blk_cell BK192.out 1).trans rfl⟩ (fun hHeld => ?_)
               clear hK K
               refine norm_ (a' := ?_) ?_ ?_
               rotate_left
               ·
                show Act.put _ (some 122) _ = _
                simp only [Act.put, sa0, sa1, sa2, i64_w, i32_w]
                rfl
               refine pure_ (i := 7) (N := some 123) (v := ?_) (a' := ?_) #[true, true, true, true, true, true, true, true, false, false, false] rfl rfl (any_of HT_.out (by kernel_rfl)) (fun _ _ _ h => h) (Or.inl ⟨by rfl, ?_⟩) ?_ ?_
               rotate_left
               ·
                intro w'
                go_simp
                with_reducible rfl
               rotate_left
               ·
                simp only [Act.put, sa0, sa1, sa2, i64_w, i32_w]
                rfl
               refine pure_ (i := 8) (N := some 124) (v := ?_) (a' := ?_) #[true, true, true, true, true, true, true, true, true, false, false] rfl rfl (any_of HT_.out (by kernel_rfl)) (fun _ _ _ h => h) (Or.inl ⟨by rfl, ?_⟩) ?_ ?_
               rotate_left
               ·
                intro w'
                go_simp
                with_reducible rfl
               rotate_left
               ·
                simp only [Act.put, sa0, sa1, sa2, i64_w, i32_w]
                rfl
               refine pure_ (i := 9) (N := some 4) (v := ?_) (a' := ?_) #[true, true, true, true, true, true, true, true, true, true, false] rfl rfl (any_of HT_.out (by kernel_rfl)) (fun _ _ _ h => h) (Or.inl ⟨by rfl, ?_⟩) ?_ ?_
               rotate_left
               ·
                intro w'
                go_simp
                with_reducible rfl
               rotate_left
               ·
                simp only [Act.put, sa0, sa1, sa2, i64_w, i32_w]
                rfl
               refine pure_ (i := 10) (N := some 5) (v := ?_) (a' := ?_) #[true, true, true, true, true, true, true, true, true, true, true] rfl rfl (any_of HT_.out (by kernel_rfl)) (fun _ _ _ h => h) (Or.inl ⟨by rfl, ?_⟩) ?_ ?_
               rotate_left
               ·
                intro w'
                go_simp
                with_reducible rfl
               rotate_left
               ·
                simp only [Act.put, sa0, sa1, sa2, i64_w, i32_w]
                rfl
               refine done_ (done_of HT_.out (by kernel_rfl)) ?_
               try go_wp2
               go_ret2
               exact ⟨er, bes⟩
              ·
               rw [if_neg c35] at H
               have c35b0 : (t187 == t188) = false := by simpa using c35
               (try (have c35b1 : decide (t187 = t188) = false := by simpa using c35))
               (try (have c35b2 : (t187 == t188) = false := by simpa using c35))
               (try (have c35b3 : ¬ (t187 = t188) := by simpa using c35))
               clear c35
               have HC56 := Aside0.mk H
               clear H
               go_upto_if 125 with (first | ((with_reducible refine gate_callee (f := 31) rfl ?_); refine goesL_ (some 84) rfl rfl Try.func31 (by kernel_rfl) rfl #[.int .u64 x0_25] rfl ga ?_; (with_reducible refine (word_Parts.calls kj25 x0_25 t174 t175 _ A28.out).mono ?_); rintro e w' ⟨rfl, ⟨nd, rfl⟩⟩; refine ⟨_, rfl, ?_⟩; (try (rw [drewN_self wc]; generalize hq_ : World.drewN wc _ = wc; have n0_ : Aside0 (Below w.heap.size w wc) := ⟨by rw [← hq_]; exact bel⟩; clear HB hq_; have HB := n0_; clear n0_))) | ((with_reducible refine gate_callee (f := 31) rfl ?_); refine goesL_ (some 89) rfl rfl Try.func31 (by kernel_rfl) rfl #[.int .u64 x1_25] rfl ga ?_; (with_reducible refine (word_Parts.calls kj25 x1_25 t176 t177 _ A29.out).mono ?_); rintro e w' ⟨rfl, ⟨nd, rfl⟩⟩; refine ⟨_, rfl, ?_⟩; (try (rw [drewN_self wc]; generalize hq_ : World.drewN wc _ = wc; have n0_ : Aside0 (Below w.heap.size w wc) := ⟨by rw [← hq_]; exact bel⟩; clear HB hq_; have HB := n0_; clear n0_))) | ((with_reducible refine gate_callee (f := 32) rfl ?_); refine goesL_ (some 94) rfl rfl Try.func32 (by kernel_rfl) rfl #[.agg #[.int .u64 0, .int .u64 t174], .int .i64 64] rfl ga ?_; (with_reducible refine (wide_Wide_Left.calls 0 t174 64 t178 t179 _ A30.out).mono ?_); rintro e w57 ⟨rfl, hb⟩; refine ⟨_, rfl, ?_⟩; refine ax1 (below_step bel hb) ?_; clear HB; intro HB; (try clear hb)) | ((with_reducible refine gate_dst (N := 15) rfl ?_); refine gbox (N := 15) (cs := #[.int .u64 0, .int .u64 0]) (t := 48) ?_; intro gb180 hg w58 hbox hb; refine ax4 (below_step bel hb) hbox ((ge hg : w.heap.size ≤ gb180)) ((ge hg : w.heap.size ≤ gb180)) ?_; clear HB; intro HB BK180 GW180 GE180; clear hb hbox hg; have hcz59_0 := bc BK180 0 rfl; have hcz59_1 := bc BK180 1 rfl; have hfz59_0 := blk_frozen BK180.out 0; have hfz59_1 := blk_frozen BK180.out 1) | ((with_reducible refine gate_callee (f := 32) rfl ?_); refine goesL_ (some 98) rfl rfl Try.func32 (by kernel_rfl) rfl #[.agg #[.int .u64 0, .int .u64 t176], .int .i64 64] rfl ga ?_; (with_reducible refine (wide_Wide_Left.calls 0 t176 64 t181 t182 _ A31.out).mono ?_); rintro e w60 ⟨rfl, hb⟩; refine ⟨_, rfl, ?_⟩; refine ax2 (blk_below (g := gb180) (o := .cells #[.int .u64 t178, .int .u64 t179] 48 (0, 0)) (by (with_reducible repeat (first | refine blk_drewN ?_ _ | refine blk_drew ?_ | refine blk_alloc ?_ _)); refine blk_put (cs := #[.int .u64 t178, .int .u64 0]) ?_ 1 _ rfl; (with_reducible repeat (first | refine blk_drewN ?_ _ | refine blk_drew ?_ | refine blk_alloc ?_ _)); refine blk_put (cs := #[.int .u64 0, .int .u64 0]) ?_ 0 _ rfl; (with_reducible repeat (first | refine blk_drewN ?_ _ | refine blk_drew ?_ | refine blk_alloc ?_ _)); exact BK180.out) hb) (below_step bes hb) ?_; clear BK180; clear HB; intro BK180 HB; (try clear hb)) | ((with_reducible refine gate_callee (f := 33) rfl ?_); refine goesL_ (some 102) rfl rfl Try.func33 (by kernel_rfl) rfl #[.agg #[.int .u64 t181, .int .u64 t182], .int .i64 (wrap64 (t175 - t177))] rfl ga ?_; (with_reducible refine (wide_Wide_Right.calls kj25 t181 t182 (wrap64 (t175 - t177)) t183 t184 t185 _ A32.out).mono ?_); rintro e w61 ⟨rfl, hb⟩; refine ⟨_, rfl, ?_⟩; refine ax2 (bb BK180 hb) (below_step bes hb) ?_; clear BK180; clear HB; intro BK180 HB; (try clear hb)) | ((with_reducible refine gate_dst (N := 16) rfl ?_); refine gbox (N := 16) (cs := #[.int .u64 0, .int .u64 0]) (t := 48) ?_; intro gb186 hg w62 hbox hb; refine ax7 (bb BK180 hb) (below_step bes hb) hbox ((ge hg : w.heap.size ≤ gb186)) ((ge hg : w.heap.size ≤ gb186)) (nl hg BK180) (ng hg BK180) ?_; clear BK180; clear HB; intro BK180 HB BK186 GW186 GE186 NB180_186 NB186_180; clear hb hbox hg; have hnb63 := NB186_180.out; have hnc63 := NB180_186.out; have hcz64_0 := bc BK186 0 rfl; have hcz64_1 := bc BK186 1 rfl; have hfz64_0 := blk_frozen BK186.out 0; have hfz64_1 := blk_frozen BK186.out 1) | ((with_reducible refine gate_callee (f := 19) rfl ?_); refine goesL_ (some 106) rfl rfl Try.func19 (by kernel_rfl) rfl #[.int .u64 x0_25] rfl ga ?_; (with_reducible refine (word_Neg.calls x0_25 t187 _ A33.out).mono ?_); rintro e w' ⟨rfl, ⟨nd, rfl⟩⟩; refine ⟨_, rfl, ?_⟩) | ((with_reducible refine gate_callee (f := 19) rfl ?_); refine goesL_ (some 108) rfl rfl Try.func19 (by kernel_rfl) rfl #[.int .u64 x1_25] rfl ga ?_; (with_reducible refine (word_Neg.calls x1_25 t188 _ A34.out).mono ?_); rintro e w' ⟨rfl, ⟨nd, rfl⟩⟩; refine ⟨_, rfl, ?_⟩))
               (try simp only [Act.put, sa0, sa1, sa2])
               go_cut [] (fun wc => ∃ (kq : Nat) (x187000_55 : Int) (x187001_55 : Int), Aside0 (soft_Add.j3 kq x0_25 t175 t185 t178 t179 x187000_55 x187001_55 = some (r1, r2)) ∧ Aside0 (kq ≤ kj25) ∧ Aside0 (wc.heap[gb180]? = some (.cells #[.int .u64 t178, .int .u64 t179] 48 (0, 0))) ∧ Aside0 (wc.heap[gb186]? = some (.cells #[.int .u64 x187000_55, .int .u64 x187001_55] 48 (0, 0))) ∧ Aside0 (Below w.heap.size w wc))
               case first =>
                have H := HC56.out
                clear HC56
                by_cases c65 : t185 = true
                rotate_left
                ·
                 replace c65 := Bool.eq_false_iff.mpr c65
                 subst c65
                 rw [if_neg (show ¬ (false = true) by decide)] at H
                 have H' := Aside0.mk H
                 clear H
                 go_wp2
                 go_meet
                 case rel => exact ⟨_, (t183), (t184), H', ⟨by have := HJ9.out; have := HJ18.out; have := HJ25.out; first | omega | exact Nat.le_refl _⟩, ⟨by (with_reducible repeat (first | refine blk_drewN ?_ _ | refine blk_drew ?_ | refine blk_alloc ?_ _)); refine blk_far ?_ NB180_186.out _; (with_reducible repeat (first | refine blk_drewN ?_ _ | refine blk_drew ?_ | refine blk_alloc ?_ _)); refine blk_far ?_ NB180_186.out _; (with_reducible repeat (first | refine blk_drewN ?_ _ | refine blk_drew ?_ | refine blk_alloc ?_ _)); exact BK180.out⟩, ⟨by (with_reducible repeat (first | refine blk_drewN ?_ _ | refine blk_drew ?_ | refine blk_alloc ?_ _)); refine blk_put (cs := #[.int .u64 t183, .int .u64 0]) ?_ 1 _ rfl; (with_reducible repeat (first | refine blk_drewN ?_ _ | refine blk_drew ?_ | refine blk_alloc ?_ _)); refine blk_put (cs := #[.int .u64 0, .int .u64 0]) ?_ 0 _ rfl; (with_reducible repeat (first | refine blk_drewN ?_ _ | refine blk_drew ?_ | refine blk_alloc ?_ _)); exact BK186.out⟩, ⟨bes⟩⟩
                subst c65
                rw [if_pos rfl] at H
                obtain ⟨⟨t196, t197, t198⟩, A660, H⟩ := Option.bind_eq_some_iff.mp H
                (try dsimp -simprocs only at H)
                have A66 := Aside0.mk A660
                clear A660
                have H' := Aside0.mk H
                clear H
                have hnb67 := NB186_180.out
                have hnc67 := NB180_186.out
                have hcz68_0 := bc BK186 0 rfl
                have hcz68_1 := bc BK186 1 rfl
                have hfz68_0 := blk_frozen BK186.out 0
                have hfz68_1 := blk_frozen BK186.out 1
                go_wp2_with (first | ((with_reducible refine gate_callee (f := 34) rfl ?_); refine goesL_ (some 129) rfl rfl Try.func34 (by kernel_rfl) rfl #[.agg #[.int .u64 t183, .int .u64 t184], .agg #[.int .u64 0, .int .u64 1]] rfl ga ?_; (with_reducible refine (wide_Wide_Add.calls t183 t184 0 1 t196 t197 t198 _ A66.out).mono ?_); rintro e w69 ⟨rfl, hb⟩; refine ⟨_, rfl, ?_⟩; refine ax3 (blk_below (g := gb180) (o := .cells #[.int .u64 t178, .int .u64 t179] 48 (0, 0)) (by (with_reducible repeat (first | refine blk_drewN ?_ _ | refine blk_drew ?_ | refine blk_alloc ?_ _)); refine blk_far ?_ NB180_186.out _; (with_reducible repeat (first | refine blk_drewN ?_ _ | refine blk_drew ?_ | refine blk_alloc ?_ _)); refine blk_far ?_ NB180_186.out _; (with_reducible repeat (first | refine blk_drewN ?_ _ | refine blk_drew ?_ | refine blk_alloc ?_ _)); exact BK180.out) hb) (blk_below (g := gb186) (o := .cells #[.int .u64 t183, .int .u64 t184] 48 (0, 0)) (by (with_reducible repeat (first | refine blk_drewN ?_ _ | refine blk_drew ?_ | refine blk_alloc ?_ _)); refine blk_put (cs := #[.int .u64 t183, .int .u64 0]) ?_ 1 _ rfl; (with_reducible repeat (first | refine blk_drewN ?_ _ | refine blk_drew ?_ | refine blk_alloc ?_ _)); refine blk_put (cs := #[.int .u64 0, .int .u64 0]) ?_ 0 _ rfl; (with_reducible repeat (first | refine blk_drewN ?_ _ | refine blk_drew ?_ | refine blk_alloc ?_ _)); exact BK186.out) hb) (below_step bes hb) ?_; clear BK180; clear BK186; clear HB; intro BK180 BK186 HB; (try clear hb); have hcz70_0 := bc BK186 0 rfl; have hcz70_1 := bc BK186 1 rfl; have hfz70_0 := blk_frozen BK186.out 0; have hfz70_1 := blk_frozen BK186.out 1))
                go_meet
                case rel => exact ⟨_, (t196), (t197), H', ⟨by have := HJ9.out; have := HJ18.out; have := HJ25.out; first | omega | exact Nat.le_refl _⟩, ⟨by (with_reducible repeat (first | refine blk_drewN ?_ _ | refine blk_drew ?_ | refine blk_alloc ?_ _)); refine blk_far ?_ NB180_186.out _; (with_reducible repeat (first | refine blk_drewN ?_ _ | refine blk_drew ?_ | refine blk_alloc ?_ _)); refine blk_far ?_ NB180_186.out _; (with_reducible repeat (first | refine blk_drewN ?_ _ | refine blk_drew ?_ | refine blk_alloc ?_ _)); exact BK180.out⟩, ⟨by (with_reducible repeat (first | refine blk_drewN ?_ _ | refine blk_drew ?_ | refine blk_alloc ?_ _)); refine blk_put (cs := #[.int .u64 t196, .int .u64 t184]) ?_ 1 _ rfl; (with_reducible repeat (first | refine blk_drewN ?_ _ | refine blk_drew ?_ | refine blk_alloc ?_ _)); refine blk_put (cs := #[.int .u64 t183, .int .u64 t184]) ?_ 0 _ rfl; (with_reducible repeat (first | refine blk_drewN ?_ _ | refine blk_drew ?_ | refine blk_alloc ?_ _)); exact BK186.out⟩, ⟨bes⟩⟩
               case rest =>
                clear HC56
                try clear c1
                try clear c2
                try clear p2
                try clear c3
                try clear c4
                try clear c5
                try clear c6
                try clear p6
                try clear c12
                try clear c14
                try clear c14b0
                try clear c14b1
                try clear c15
                try clear c15b0
                try clear c15b1
                try clear c16
                try clear c17
                try clear c17b0
                try clear c17b1
                try clear c18
                try clear c18b0
                try clear c18b1
                try clear c19
                try clear c20
                try clear c20b0
                try clear c20b1
                try clear c21
                try clear c22
                try clear c22b0
                try clear c22b1
                try clear c23
                try clear c23b0
                try clear c23b1
                try clear c27
                try clear c27b0
                try clear c30
                try clear c31
                try clear c32
                try clear c33
                try clear c34
                try clear c35
                try clear c35b0
                try clear c35b1
                try clear c35b2
                try clear c45
                try clear c50
                try clear c51
                try clear c63
                try clear p64
                try clear c65
                try clear c67
                try clear hcz41_0
                try clear hcz41_1
                try clear hcz46_0
                try clear hcz46_1
                try clear hcz47_0
                try clear hcz47_1
                try clear hcz52_0
                try clear hcz52_1
                try clear hcz59_0
                try clear hcz59_1
                try clear hcz64_0
                try clear hcz64_1
                try clear hcz68_0
                try clear hcz68_1
                try clear hcz70_0
                try clear hcz70_1
                try clear hfz41_0
                try clear hfz41_1
                try clear hfz46_0
                try clear hfz46_1
                try clear hfz47_0
                try clear hfz47_1
                try clear hfz52_0
                try clear hfz52_1
                try clear hfz59_0
                try clear hfz59_1
                try clear hfz64_0
                try clear hfz64_1
                try clear hfz68_0
                try clear hfz68_1
                try clear hfz70_0
                try clear hfz70_1
                try clear p2
                obtain ⟨kq, x187000_55, x187001_55, HA, HJ55, BK180, BK186, HB⟩ := hcut
                cases kq with
                | zero => exact absurd HA.out (by simp [soft_Add.j3])
                | succ kj55 =>
                 have H := HA.out
                 clear HA
                 simp only [soft_Add.j3] at H
                 obtain ⟨⟨t199, t200, t201⟩, A710, H⟩ := Option.bind_eq_some_iff.mp H
                 (try dsimp -simprocs only at H)
                 have A71 := Aside0.mk A710
                 clear A710
                 have HC72 := Aside0.mk H
                 clear H
                 have hnb73 := NB180_186.out
                 have hnc73 := NB186_180.out
                 have hcz74_0 := bc BK180 0 rfl
                 have hcz74_1 := bc BK180 1 rfl
                 have hfz74_0 := blk_frozen BK180.out 0
                 have hfz74_1 := blk_frozen BK180.out 1
                 have hcz75_0 := bc BK186 0 rfl
                 have hcz75_1 := bc BK186 1 rfl
                 have hfz75_0 := blk_frozen BK186.out 0
                 have hfz75_1 := blk_frozen BK186.out 1
                 go_upto_region 29 with (first | ((with_reducible refine gate_callee (f := 36) rfl ?_); refine goesL_ (some 135) rfl rfl Try.func36 (by kernel_rfl) rfl #[.agg #[.int .u64 t178, .int .u64 t179], .agg #[.int .u64 x187000_55, .int .u64 x187001_55]] rfl ga ?_; (with_reducible refine (wide_Wide_Sub.calls t178 t179 x187000_55 x187001_55 t199 t200 t201 _ A71.out).mono ?_); rintro e w76 ⟨rfl, hb⟩; refine ⟨_, rfl, ?_⟩; refine ax3 (bb BK180 hb) (bb BK186 hb) (below_step bes hb) ?_; clear BK180; clear BK186; clear HB; intro BK180 BK186 HB; (try clear hb)) | ((with_reducible refine gate_dst (N := 20) rfl ?_); refine gbox (N := 20) (cs := #[.int .u64 0, .int .u64 0]) (t := 48) ?_; intro gb202 hg w77 hbox hb; refine ax10 (bb BK180 hb) (bb BK186 hb) (below_step bes hb) hbox ((ge hg : w.heap.size ≤ gb202)) ((ge hg : w.heap.size ≤ gb202)) (nl hg BK180) (ng hg BK180) (nl hg BK186) (ng hg BK186) ?_; clear BK180; clear BK186; clear HB; intro BK180 BK186 HB BK202 GW202 GE202 NB180_202 NB202_180 NB186_202 NB202_186; clear hb hbox hg; have hnb78 := NB202_180.out; have hnc78 := NB180_202.out; have hnb79 := NB202_186.out; have hnc79 := NB186_202.out; have hcz80_0 := bc BK202 0 rfl; have hcz80_1 := bc BK202 1 rfl; have hfz80_0 := blk_frozen BK202.out 0; have hfz80_1 := blk_frozen BK202.out 1))
                 (try simp only [Act.put, sa0, sa1, sa2])
                 go_cut [143] (fun v143 wc => ∃ (kq : Nat) (x143_71 : Bool), v143 = .bool x143_71 ∧ Aside0 (soft_Add.j4 kq x0_25 t175 t185 x143_71 t199 t200 = some (r1, r2)) ∧ Aside0 (kq ≤ kj55) ∧ Aside0 (wc.heap[gb180]? = some (.cells #[.int .u64 t178, .int .u64 t179] 48 (0, 0))) ∧ Aside0 (wc.heap[gb186]? = some (.cells #[.int .u64 x187000_55, .int .u64 x187001_55] 48 (0, 0))) ∧ Aside0 (wc.heap[gb202]? = some (.cells #[.int .u64 t199, .int .u64 t200] 48 (0, 0))) ∧ Aside0 (Below w.heap.size w wc))
                 case first =>
                  have H := HC72.out
                  clear HC72
                  obtain ⟨t203, A810, H⟩ := Option.bind_eq_some_iff.mp H
                  (try dsimp -simprocs only at H)
                  have A81 := Aside0.mk A810
                  clear A810
                  by_cases c82 : t203 = true
                  ·
                   subst c82
                   rw [if_pos rfl] at H
                   have H' := Aside0.mk H
                   clear H
                   have hnb83 := NB202_180.out
                   have hnc83 := NB180_202.out
                   have hnb84 := NB202_186.out
                   have hnc84 := NB186_202.out
                   have hcz85_0 := bc BK202 0 rfl
                   have hcz85_1 := bc BK202 1 rfl
                   have hfz85_0 := blk_frozen BK202.out 0
                   have hfz85_1 := blk_frozen BK202.out 1
                   go_wp2_with (first | ((with_reducible refine gate_callee (f := 37) rfl ?_); refine goesL_ (some 139) rfl rfl Try.func37 (by kernel_rfl) rfl #[.agg #[.int .u64 t199, .int .u64 t200]] rfl ga ?_; (with_reducible refine (wide_Wide_Zero.calls t199 t200 true _ A81.out).mono ?_); rintro e w86 ⟨rfl, hb⟩; refine ⟨_, rfl, ?_⟩; refine ax4 (blk_below (g := gb180) (o := .cells #[.int .u64 t178, .int .u64 t179] 48 (0, 0)) (by (with_reducible repeat (first | refine blk_drewN ?_ _ | refine blk_drew ?_ | refine blk_alloc ?_ _)); refine blk_far ?_ NB180_202.out _; (with_reducible repeat (first | refine blk_drewN ?_ _ | refine blk_drew ?_ | refine blk_alloc ?_ _)); refine blk_far ?_ NB180_202.out _; (with_reducible repeat (first | refine blk_drewN ?_ _ | refine blk_drew ?_ | refine blk_alloc ?_ _)); exact BK180.out) hb) (blk_below (g := gb186) (o := .cells #[.int .u64 x187000_55, .int .u64 x187001_55] 48 (0, 0)) (by (with_reducible repeat (first | refine blk_drewN ?_ _ | refine blk_drew ?_ | refine blk_alloc ?_ _)); refine blk_far ?_ NB186_202.out _; (with_reducible repeat (first | refine blk_drewN ?_ _ | refine blk_drew ?_ | refine blk_alloc ?_ _)); refine blk_far ?_ NB186_202.out _; (with_reducible repeat (first | refine blk_drewN ?_ _ | refine blk_drew ?_ | refine blk_alloc ?_ _)); exact BK186.out) hb) (blk_below (g := gb202) (o := .cells #[.int .u64 t199, .int .u64 t200] 48 (0, 0)) (by (with_reducible repeat (first | refine blk_drewN ?_ _ | refine blk_drew ?_ | refine blk_alloc ?_ _)); refine blk_put (cs := #[.int .u64 t199, .int .u64 0]) ?_ 1 _ rfl; (with_reducible repeat (first | refine blk_drewN ?_ _ | refine blk_drew ?_ | refine blk_alloc ?_ _)); refine blk_put (cs := #[.int .u64 0, .int .u64 0]) ?_ 0 _ rfl; (with_reducible repeat (first | refine blk_drewN ?_ _ | refine blk_drew ?_ | refine blk_alloc ?_ _)); exact BK202.out) hb) (below_step bes hb) ?_; clear BK180; clear BK186; clear BK202; clear HB; intro BK180 BK186 BK202 HB; (try clear hb)))
                   go_meet
                   case rel => exact ⟨_, (!t185), (by first | rfl | (simp; done) | (simp [*]; done)), H', ⟨by have := HJ9.out; have := HJ18.out; have := HJ25.out; have := HJ55.out; first | omega | exact Nat.le_refl _⟩, ⟨kb BK180⟩, ⟨kb BK186⟩, ⟨kb BK202⟩, ⟨bes⟩⟩
                  ·
                   replace c82 := Bool.eq_false_iff.mpr c82
                   subst c82
                   rw [if_neg (show ¬ (false = true) by decide)] at H
                   have H' := Aside0.mk H
                   clear H
                   have hnb87 := NB202_180.out
                   have hnc87 := NB180_202.out
                   have hnb88 := NB202_186.out
                   have hnc88 := NB186_202.out
                   have hcz89_0 := bc BK202 0 rfl
                   have hcz89_1 := bc BK202 1 rfl
                   have hfz89_0 := blk_frozen BK202.out 0
                   have hfz89_1 := blk_frozen BK202.out 1
                   go_wp2_with (first | ((with_reducible refine gate_callee (f := 37) rfl ?_); refine goesL_ (some 139) rfl rfl Try.func37 (by kernel_rfl) rfl #[.agg #[.int .u64 t199, .int .u64 t200]] rfl ga ?_; (with_reducible refine (wide_Wide_Zero.calls t199 t200 false _ A81.out).mono ?_); rintro e w90 ⟨rfl, hb⟩; refine ⟨_, rfl, ?_⟩; refine ax4 (blk_below (g := gb180) (o := .cells #[.int .u64 t178, .int .u64 t179] 48 (0, 0)) (by (with_reducible repeat (first | refine blk_drewN ?_ _ | refine blk_drew ?_ | refine blk_alloc ?_ _)); refine blk_far ?_ NB180_202.out _; (with_reducible repeat (first | refine blk_drewN ?_ _ | refine blk_drew ?_ | refine blk_alloc ?_ _)); refine blk_far ?_ NB180_202.out _; (with_reducible repeat (first | refine blk_drewN ?_ _ | refine blk_drew ?_ | refine blk_alloc ?_ _)); exact BK180.out) hb) (blk_below (g := gb186) (o := .cells #[.int .u64 x187000_55, .int .u64 x187001_55] 48 (0, 0)) (by (with_reducible repeat (first | refine blk_drewN ?_ _ | refine blk_drew ?_ | refine blk_alloc ?_ _)); refine blk_far ?_ NB186_202.out _; (with_reducible repeat (first | refine blk_drewN ?_ _ | refine blk_drew ?_ | refine blk_alloc ?_ _)); refine blk_far ?_ NB186_202.out _; (with_reducible repeat (first | refine blk_drewN ?_ _ | refine blk_drew ?_ | refine blk_alloc ?_ _)); exact BK186.out) hb) (blk_below (g := gb202) (o := .cells #[.int .u64 t199, .int .u64 t200] 48 (0, 0)) (by (with_reducible repeat (first | refine blk_drewN ?_ _ | refine blk_drew ?_ | refine blk_alloc ?_ _)); refine blk_put (cs := #[.int .u64 t199, .int .u64 0]) ?_ 1 _ rfl; (with_reducible repeat (first | refine blk_drewN ?_ _ | refine blk_drew ?_ | refine blk_alloc ?_ _)); refine blk_put (cs := #[.int .u64 0, .int .u64 0]) ?_ 0 _ rfl; (with_reducible repeat (first | refine blk_drewN ?_ _ | refine blk_drew ?_ | refine blk_alloc ?_ _)); exact BK202.out) hb) (below_step bes hb) ?_; clear BK180; clear BK186; clear BK202; clear HB; intro BK180 BK186 BK202 HB; (try clear hb)))
                   go_meet
                   case rel => exact ⟨_, (false), (by first | rfl | (simp; done) | (simp [*]; done)), H', ⟨by have := HJ9.out; have := HJ18.out; have := HJ25.out; have := HJ55.out; first | omega | exact Nat.le_refl _⟩, ⟨kb BK180⟩, ⟨kb BK186⟩, ⟨kb BK202⟩, ⟨bes⟩⟩
                 case rest =>
                  clear HC72
                  try clear c1
                  try clear c2
                  try clear p2
                  try clear c3
                  try clear c4
                  try clear c5
                  try clear c6
                  try clear p6
                  try clear c7
                  try clear c8
                  try clear c12
                  try clear c14
                  try clear c14b0
                  try clear c14b1
                  try clear c15
                  try clear c15b0
                  try clear c15b1
                  try clear c16
                  try clear c17
                  try clear c17b0
                  try clear c17b1
                  try clear c18
                  try clear c18b0
                  try clear c18b1
                  try clear c19
                  try clear c20
                  try clear c20b0
                  try clear c20b1
                  try clear c21
                  try clear c22
                  try clear c22b0
                  try clear c22b1
                  try clear c23
                  try clear c23b0
                  try clear c23b1
                  try clear c27
                  try clear c27b0
                  try clear c30
                  try clear c31
                  try clear c32
                  try clear c33
                  try clear c34
                  try clear c35
                  try clear c35b0
                  try clear c35b1
                  try clear c35b2
                  try clear c36
                  try clear c37
                  try clear c45
                  try clear c50
                  try clear c51
                  try clear c63
                  try clear p64
                  try clear c65
                  try clear c67
                  try clear c73
                  try clear c78
                  try clear c79
                  try clear c82
                  try clear c83
                  try clear c84
                  try clear c87
                  try clear c88
                  try clear hcz41_0
                  try clear hcz41_1
                  try clear hcz46_0
                  try clear hcz46_1
                  try clear hcz47_0
                  try clear hcz47_1
                  try clear hcz52_0
                  try clear hcz52_1
                  try clear hcz59_0
                  try clear hcz59_1
                  try clear hcz64_0
                  try clear hcz64_1
                  try clear hcz68_0
                  try clear hcz68_1
                  try clear hcz70_0
                  try clear hcz70_1
                  try clear hcz74_0
                  try clear hcz74_1
                  try clear hcz75_0
                  try clear hcz75_1
                  try clear hcz80_0
                  try clear hcz80_1
                  try clear hcz85_0
                  try clear hcz85_1
                  try clear hcz89_0
                  try clear hcz89_1
                  try clear hfz41_0
                  try clear hfz41_1
                  try clear hfz46_0
                  try clear hfz46_1
                  try clear hfz47_0
                  try clear hfz47_1
                  try clear hfz52_0
                  try clear hfz52_1
                  try clear hfz59_0
                  try clear hfz59_1
                  try clear hfz64_0
                  try clear hfz64_1
                  try clear hfz68_0
                  try clear hfz68_1
                  try clear hfz70_0
                  try clear hfz70_1
                  try clear hfz74_0
                  try clear hfz74_1
                  try clear hfz75_0
                  try clear hfz75_1
                  try clear hfz80_0
                  try clear hfz80_1
                  try clear hfz85_0
                  try clear hfz85_1
                  try clear hfz89_0
                  try clear hfz89_1
                  try clear p2
                  try clear p6
                  try clear p64
                  obtain ⟨kq, x143_71, rfl, HA, HJ71, BK180, BK186, BK202, HB⟩ := hcut
                  cases kq with
                  | zero => exact absurd HA.out (by simp [soft_Add.j4])
                  | succ kj71 =>
                   have H := HA.out
                   clear HA
                   simp only [soft_Add.j4] at H
                   by_cases c91 : x143_71 = true
                   ·
                    subst c91
                    rw [if_pos rfl] at H
                    simp only [Option.some.injEq, Prod.mk.injEq] at H
                    obtain ⟨rfl, rfl⟩ := H
                    go_wp2
                    go_ret2
                    exact ⟨er, bes⟩
                   ·
                    replace c91 := Bool.eq_false_iff.mpr c91
                    subst c91
                    rw [if_neg (show ¬ (false = true) by decide)] at H
                    obtain ⟨t204, A920, H⟩ := Option.bind_eq_some_iff.mp H
                    (try dsimp -simprocs only at H)
                    have A92 := Aside0.mk A920
                    clear A920
                    obtain ⟨⟨t205, t206⟩, A930, H⟩ := Option.bind_eq_some_iff.mp H
                    (try dsimp -simprocs only at H)
                    have A93 := Aside0.mk A930
                    clear A930
                    simp only [Option.some.injEq, Prod.mk.injEq] at H
                    obtain ⟨rfl, rfl⟩ := H
                    try go_wp2
                    refine ax4 (blk_drew BK180.out) (blk_drew BK186.out) (blk_drew BK202.out) (below_drew1 HB.out) ?_
                    clear BK180 BK186 BK202 HB
                    intro BK180 BK186 BK202 HB
                    refine start_ (n := 11) (S := fun w' => w'.cell? ⟨gb202, 0, none⟩ = some (.int .u64 t199) ∧ w'.cell? ⟨gb202, 1, none⟩ = some (.int .u64 t200)) (ds := []) #[false, false, false, false, false, false, false, false, false, false, false] (by kernel_rfl) rfl rfl ⟨(blk_cell BK202.out 0).trans rfl, (blk_cell BK202.out 1).trans rfl⟩ (fun hHeld => ?_); refine with_tabW soft_Add.tab31 soft_Add.bits31 (fun HT_ HW_ => ?_)
                    generalize wc.drew = w94 at BK180 BK186 BK202 HB hHeld ⊢
                    refine pure_ (i := 0) (N := some 144) (v := ?_) (a' := ?_) #[true, false, false, false, false, false, false, false, false, false, false] rfl rfl (any_of HT_.out (by kernel_rfl)) (fun _ _ _ h => h) (Or.inl ⟨by rfl, ?_⟩) ?_ ?_
                    rotate_left
                    ·
                     intro w'
                     go_simp
                     with_reducible rfl
                    rotate_left
                    ·
                     simp only [Act.put, sa0, sa1, sa2, i64_w, i32_w]
                     rfl
                    refine pure_ (i := 3) (N := some 147) (v := ?_) (a' := ?_) #[true, false, false, true, false, false, false, false, false, false, false] rfl rfl (any_of HT_.out (by kernel_rfl)) (fun _ _ _ h => h) (Or.inl ⟨by rfl, ?_⟩) ?_ ?_
                    rotate_left
                    ·
                     intro w'
                     go_simp
                     with_reducible rfl
                    rotate_left
                    ·
                     simp only [Act.put, sa0, sa1, sa2, i64_w, i32_w]
                     rfl
                    refine pure_ (i := 4) (N := some 148) (v := ?_) (a' := ?_) #[true, false, false, true, true, false, false, false, false, false, false] rfl rfl (any_of HT_.out (by kernel_rfl)) (fun _ _ _ h => h) (Or.inl ⟨by rfl, ?_⟩) ?_ ?_
                    rotate_left
                    ·
                     intro w'
                     go_simp
                     with_reducible rfl
                    rotate_left
                    ·
                     simp only [Act.put, sa0, sa1, sa2, i64_w, i32_w]
                     rfl
                    refine pure_ (i := 5) (N := some 149) (v := ?_) (a' := ?_) #[true, false, false, true, true, true, false, false, false, false, false] rfl rfl (any_of HT_.out (by kernel_rfl)) (fun _ _ _ h => h) (Or.inl ⟨by rfl, ?_⟩) ?_ ?_
                    rotate_left
                    ·
                     intro w'
                     go_simp
                     with_reducible rfl
                    rotate_left
                    ·
                     simp only [Act.put, sa0, sa1, sa2, i64_w, i32_w]
                     rfl
                    refine take_ (i := 2) (N := some 146) (v := ?_) (a' := ?_) #[true, false, true, true, true, true, false, false, false, false, false] rfl rfl (take_ofW HT_.out HW_.out (by kernel_rfl)) (fun _ _ _ h => h) (Or.inl ⟨by rfl, ?_⟩) hHeld ?_ ?_
                    rotate_left
                    ·
                     rintro w' ⟨s0, s1⟩
                     go_simp
                     with_reducible rfl
                    rotate_left
                    ·
                     simp only [Act.put, sa0, sa1, sa2, i64_w, i32_w]
                     rfl
                    refine one_ (i := 1) (N := some 145) #[true, true, true, true, true, true, false, false, false, false, false] rfl rfl (one_of HT_.out (by kernel_rfl)) (by decide) (fun K hK => ?_)
                    refine goes_ Try.func19 (by kernel_rfl) rfl #[.int .u64 x0_25] (by rfl) rfl rfl ga ?_
                    with_reducible refine (word_Neg.calls x0_25 t204 _ A92.out).mono ?_
                    rintro e w' ⟨rfl, ⟨nd, rfl⟩⟩
                    refine ⟨_, rfl, ?_⟩
                    refine hK.out _ _ ⟨(blk_cell BK202.out 0).trans rfl, (blk_cell BK202.out 1).trans rfl⟩ (fun hHeld => ?_)
                    clear hK K
                    refine norm_ (a' := ?_) ?_ ?_
                    rotate_left
                    ·
                     show Act.put _ (some 145) _ = _
                     simp only [Act.put, sa0, sa1, sa2, i64_w, i32_w]
                     rfl
                    refine one_ (i := 6) (N := some 150) #[true, true, true, true, true, true, true, false, false, false, false] rfl rfl (one_of HT_.out (by kernel_rfl)) (by decide) (fun K hK => ?_)
                    refine goes_ Try.func35 (by kernel_rfl) rfl #[.bool t204, .agg #[.int .u64 t199, .int .u64 t200], .int .i64 (wrap64 (t175 - 64)), .bool t185] (by rfl) rfl rfl ga ?_
                    with_reducible refine (round_Round.calls kj71 t204 t199 t200 (wrap64 (t175 - 64)) t185 t205 t206 _ A93.out).mono ?_
                    rintro e w95 ⟨rfl, hb⟩
                    refine ⟨_, rfl, ?_⟩
                    refine ax4 (bb BK180 hb) (bb BK186 hb) (bb BK202 hb) (below_step bes hb) ?_
                    clear BK180 BK186 BK202 HB
                    intro BK180 BK186 BK202 HB
                    (try clear hb)
                    (try clear hb2)
                    (try clear hk)
                    (try clear hi)
                    refine hK.out _ _ ⟨(blk_cell BK202.out 0).trans rfl, (blk_cell BK202.out 1).trans rfl⟩ (fun hHeld => ?_)
                    clear hK K
                    refine norm_ (a' := ?_) ?_ ?_
                    rotate_left
                    ·
                     show Act.put _ (some 150) _ = _
                     simp only [Act.put, sa0, sa1, sa2, i64_w, i32_w]
                     rfl
                    refine pure_ (i := 7) (N := some 151) (v := ?_) (a' := ?_) #[true, true, true, true, true, true, true, true, false, false, false] rfl rfl (any_of HT_.out (by kernel_rfl)) (fun _ _ _ h => h) (Or.inl ⟨by rfl, ?_⟩) ?_ ?_
                    rotate_left
                    ·
                     intro w'
                     go_simp
                     with_reducible rfl
                    rotate_left
                    ·
                     simp only [Act.put, sa0, sa1, sa2, i64_w, i32_w]
                     rfl
                    refine pure_ (i := 8) (N := some 152) (v := ?_) (a' := ?_) #[true, true, true, true, true, true, true, true, true, false, false] rfl rfl (any_of HT_.out (by kernel_rfl)) (fun _ _ _ h => h) (Or.inl ⟨by rfl, ?_⟩) ?_ ?_
                    rotate_left
                    ·
                     intro w'
                     go_simp
                     with_reducible rfl
                    rotate_left
                    ·
                     simp only [Act.put, sa0, sa1, sa2, i64_w, i32_w]
                     rfl
                    refine pure_ (i := 9) (N := some 4) (v := ?_) (a' := ?_) #[true, true, true, true, true, true, true, true, true, true, false] rfl rfl (any_of HT_.out (by kernel_rfl)) (fun _ _ _ h => h) (Or.inl ⟨by rfl, ?_⟩) ?_ ?_
                    rotate_left
                    ·
                     intro w'
                     go_simp
                     with_reducible rfl
                    rotate_left
                    ·
                     simp only [Act.put, sa0, sa1, sa2, i64_w, i32_w]
                     rfl
                    refine pure_ (i := 10) (N := some 5) (v := ?_) (a' := ?_) #[true, true, true, true, true, true, true, true, true, true, true] rfl rfl (any_of HT_.out (by kernel_rfl)) (fun _ _ _ h => h) (Or.inl ⟨by rfl, ?_⟩) ?_ ?_
                    rotate_left
                    ·
                     intro w'
                     go_simp
                     with_reducible rfl
                    rotate_left
                    ·
                     simp only [Act.put, sa0, sa1, sa2, i64_w, i32_w]
                     rfl
                    refine done_ (done_of HT_.out (by kernel_rfl)) ?_
                    try go_wp2
                    go_ret2
                    exact ⟨er, bes⟩

/-! ### word_Flip: function 15 -/
def word_Flip.f (a0 : Int) : Option (Int) := some (Go.bits .xor .u64 a0 9223372036854775808)
set_option maxHeartbeats 8000000 in
set_option maxRecDepth 100000 in
theorem word_Flip.calls (a0 : Int) (r : Int) (w : World) (h : word_Flip.f a0 = some r) :
  Calls Try.prog 15 #[.int .u64 a0] w fun e w' => e = .returned (.int .u64 r) ∧ Drawn0 w w' := by
 have H : (some (Go.bits .xor .u64 a0 9223372036854775808)) = some r := h
 clear h
 obtain rfl := Option.some.inj H
 go_enter Try.func15, Try.ntmps15
 go_wp2
 go_ret
 exact ⟨by first | rfl | (simp; done) | (simp [*]; done), by repeat (first | exact Drawn0.refl _ | apply Drawn0.step)⟩

/-! ### soft_Sub: function 14 -/
def soft_Sub.f (k : Nat) (a0 : Int) (a1 : Int) : Option (Int × Int) := (word_Flip.f a1).bind fun t207 => ((soft_Add.f k a0 t207).bind fun bt208 => (some (bt208.1, bt208.2)))
theorem soft_Sub.mono : ∀ a0 a1 k, LeO (soft_Sub.f k a0 a1) (soft_Sub.f (k + 1) a0 a1) := by
 intro a0 a1 k
 unfold soft_Sub.f
 repeat' with_reducible first | apply soft_Add.mono | exact LeO.refl _ | exact LeO.none _ | refine LeO.ite ?_ ?_ | refine LeO.bind ?_ (fun _ => ?_)
set_option maxHeartbeats 8000000 in
set_option maxRecDepth 100000 in
theorem soft_Sub.calls (k : Nat) (a0 : Int) (a1 : Int) (r1 : Int) (r2 : Int) (w : World) (h : soft_Sub.f k a0 a1 = some (r1, r2)) :
  Calls Try.prog 14 #[.int .u64 a0, .int .u64 a1] w fun e w' => e = .returned (.tuple #[.int .u64 r1, .int .u8 r2]) ∧ Below w.heap.size w w' := by
 have HB := Aside0.mk (Below.refl w.heap.size w)
 have H : ((word_Flip.f a1).bind fun t207 => ((soft_Add.f k a0 t207).bind fun bt208 => (some (bt208.1, bt208.2)))) = some (r1, r2) := h
 clear h
 obtain ⟨t207, A30, H⟩ := Option.bind_eq_some_iff.mp H
 (try dsimp -simprocs only at H)
 have A3 := Aside0.mk A30
 clear A30
 obtain ⟨⟨t208, t209⟩, A40, H⟩ := Option.bind_eq_some_iff.mp H
 (try dsimp -simprocs only at H)
 have A4 := Aside0.mk A40
 clear A40
 simp only [Option.some.injEq, Prod.mk.injEq] at H
 obtain ⟨rfl, rfl⟩ := H
 go_enter Try.func14, Try.ntmps14
 go_wp2_with (first | ((with_reducible refine gate_callee (f := 15) rfl ?_); refine goesL_ (some 8) rfl rfl Try.func15 (by kernel_rfl) rfl #[.int .u64 a1] rfl ga ?_; (with_reducible refine (word_Flip.calls a1 t207 _ A3.out).mono ?_); rintro e w' ⟨rfl, ⟨nd, rfl⟩⟩; refine ⟨_, rfl, ?_⟩) | ((with_reducible refine gate_callee (f := 12) rfl ?_); refine goesL_ (some 9) rfl rfl Try.func12 (by kernel_rfl) rfl #[.int .u64 a0, .int .u64 t207] rfl ga ?_; (with_reducible refine (soft_Add.calls k a0 t207 t208 t209 _ A4.out).mono ?_); rintro e w5 ⟨rfl, hb⟩; refine ⟨_, rfl, ?_⟩; refine ax1 (below_step bel hb) ?_; clear HB; intro HB; (try clear hb)))
 go_ret2
 exact ⟨er, bel⟩

/-! ### bits_LeadingZeros64: function 71 -/
def bits_LeadingZeros64.f (k : Nat) (a0 : Int) : Option (Int) := (bits_Len64.f k a0).bind fun t210 => (some (wrap64 (64 - t210)))
theorem bits_LeadingZeros64.mono : ∀ a0 k, LeO (bits_LeadingZeros64.f k a0) (bits_LeadingZeros64.f (k + 1) a0) := by
 intro a0 k
 unfold bits_LeadingZeros64.f
 repeat' with_reducible first | apply bits_Len64.mono | exact LeO.refl _ | exact LeO.none _ | refine LeO.ite ?_ ?_ | refine LeO.bind ?_ (fun _ => ?_)
set_option maxHeartbeats 8000000 in
set_option maxRecDepth 100000 in
theorem bits_LeadingZeros64.calls (k : Nat) (a0 : Int) (r : Int) (w : World) (h : bits_LeadingZeros64.f k a0 = some r) :
  Calls Try.prog 71 #[.int .u64 a0] w fun e w' => e = .returned (.int .i64 r) ∧ Drawn0 w w' := by
 have H : ((bits_Len64.f k a0).bind fun t210 => (some (wrap64 (64 - t210)))) = some r := h
 clear h
 obtain ⟨t210, A20, H⟩ := Option.bind_eq_some_iff.mp H
 (try dsimp -simprocs only at H)
 have A2 := Aside0.mk A20
 clear A20
 obtain rfl := Option.some.inj H
 go_enter Try.func71, Try.ntmps71
 go_wp2_with (first | ((with_reducible refine gate_callee (f := 68) rfl ?_); refine goesL_ (some 4) rfl rfl Try.func68 (by kernel_rfl) rfl #[.int .u64 a0] rfl ga ?_; (with_reducible refine (bits_Len64.calls k a0 t210 _ A2.out).mono ?_); rintro e w' ⟨rfl, ⟨nd, rfl⟩⟩; refine ⟨_, rfl, ?_⟩))
 go_ret
 exact ⟨by first | rfl | (simp; done) | (simp [*]; done), by repeat (first | exact Drawn0.refl _ | apply Drawn0.step)⟩

end Go.Proofs.Ytfbnojelmdcnoaa.F
