-- Written by a program of this seat's session (mkprint), out of the translation.
import Derived.Test.YtfogmgcpajndcaaShort
import Derived.Test.YtfogmgcpajndcaaFx0
import Derived.Test.YtfogmgcpajndcaaFx2
import Derived.Test.YtfogmgcpajndcaaFx3
import Derived.Test.YtfogmgcpajndcaaFx5
namespace Go.Proofs.Ytfogmgcpajndcaa.F
open Go.RowKit Go.Proofs.YtfogmgcpajndcaaW.PrintWords Go.Proofs.YtfogmgcpajndcaaW.PrintLast Go.Proofs.YtfogmgcpajndcaaW.PrintMore
attribute [local go_sem] max2_int min2_int max_two min_two max_three min_three max_four min_four   -- for this text's walks alone
set_option linter.unusedVariables false
set_option linter.unusedSimpArgs false

/-! ### bits_Sub64: function 51 -/
def sub64Entry_ : Array Value → Sem Value := fun args => do
 let (x, y, b) ← Extern.MathBitsCarry.three "Sub64" args
 pure (Extern.MathBitsCarry.pair ((x + Extern.MathBitsCarry.m64 - y - b) % Extern.MathBitsCarry.m64) (if x < y + b then 1 else 0))
theorem run_sub64_ {P : Program} (x y b : Nat) (hb : b ≤ 1) (w : World) :
  (sub64Entry_ #[.int .u64 x, .int .u64 y, .int .u64 b]).run P w =
   .ok (.tuple #[.int .u64 (((x + 18446744073709551616 - y - b) % 18446744073709551616 : Nat) : Int), .int .u64 ((if x < y + b then 1 else 0 : Nat) : Int)]) w := by
 have : b = 0 ∨ b = 1 := by omega
 rcases this with rfl | rfl <;> rfl
def bits_Sub64.f (a0 a1 a2 : Int) : Option (Int × Int) := if 0 ≤ a0 ∧ 0 ≤ a1 ∧ a1 < 18446744073709551616 ∧ 0 ≤ a2 ∧ a2 ≤ 1 then (some ((a0 - a1 - a2) % 18446744073709551616, if a0 < a1 + a2 then 1 else 0)) else none
theorem bits_Sub64.run (a0 a1 a2 : Int) (r1 r2 : Int) (w : World) (h : bits_Sub64.f a0 a1 a2 = some (r1, r2)) :
  (callFunc 51 #[.int .u64 a0, .int .u64 a1, .int .u64 a2]).run Try.prog w = .ok (.value (.tuple #[.int .u64 r1, .int .u64 r2])) w := by
 unfold bits_Sub64.f at h
 by_cases hc : 0 ≤ a0 ∧ 0 ≤ a1 ∧ a1 < 18446744073709551616 ∧ 0 ≤ a2 ∧ a2 ≤ 1
 rotate_left
 ·
  rw [if_neg hc] at h; cases h

 rw [if_pos hc] at h
 obtain ⟨h0, h1, h1', h2, h3⟩ := hc
 simp only [Option.some.injEq, Prod.mk.injEq] at h
 obtain ⟨rfl, rfl⟩ := h
 obtain ⟨x, rfl⟩ := Int.eq_ofNat_of_zero_le h0
 obtain ⟨y, rfl⟩ := Int.eq_ofNat_of_zero_le h1
 obtain ⟨b, rfl⟩ := Int.eq_ofNat_of_zero_le h2
 have e1 : (((x + 18446744073709551616 - y - b) % 18446744073709551616 : Nat) : Int) = ((x : Int) - y - b) % 18446744073709551616 := by omega
 have e2 : ((if x < y + b then 1 else 0 : Nat) : Int) = if (x : Int) < y + b then 1 else 0 := by split <;> split <;> omega
 rw [← e1, ← e2]
 rw [run_callFunc_extern Try.func51 (by kernel_rfl) (by kernel_rfl) (by kernel_rfl) (e := sub64Entry_) (by kernel_rfl), run_sub64_ x y b (by omega)]
 rfl
/-! ### wide_Wide_Sub: function 43 -/
def wide_Wide_Sub.f (a0_0 : Int) (a0_1 : Int) (a1_0 : Int) (a1_1 : Int) : Option (Int × Int × Bool) := (bits_Sub64.f a0_1 a1_1 0).bind fun bt186 => ((bits_Sub64.f a0_0 a1_0 bt186.2).bind fun bt188 => (some (bt188.1, bt186.1, (bt188.2 == 1))))
set_option maxHeartbeats 8000000 in
set_option maxRecDepth 100000 in
theorem wide_Wide_Sub.calls (a0_0 : Int) (a0_1 : Int) (a1_0 : Int) (a1_1 : Int) (r1 : Int) (r2 : Int) (r3 : Bool) (w : World) (h : wide_Wide_Sub.f a0_0 a0_1 a1_0 a1_1 = some (r1, r2, r3)) :
  Calls Try.prog 43 #[.agg #[.int .u64 a0_0, .int .u64 a0_1], .agg #[.int .u64 a1_0, .int .u64 a1_1]] w fun e w' => e = .returned (.tuple #[.agg #[.int .u64 r1, .int .u64 r2], .bool r3]) ∧ Below w.heap.size w w' := by
 have hu68 := Try.underlying68
 have HB := Aside0.mk (Below.refl w.heap.size w)
 have H : ((bits_Sub64.f a0_1 a1_1 0).bind fun bt186 => ((bits_Sub64.f a0_0 a1_0 bt186.2).bind fun bt188 => (some (bt188.1, bt186.1, (bt188.2 == 1))))) = some (r1, r2, r3) := h
 clear h
 obtain ⟨⟨t186, t187⟩, A30, H⟩ := Option.bind_eq_some_iff.mp H
 (try dsimp -simprocs only at H)
 have A3 := Aside0.mk A30
 clear A30
 obtain ⟨⟨t188, t189⟩, A40, H⟩ := Option.bind_eq_some_iff.mp H
 (try dsimp -simprocs only at H)
 have A4 := Aside0.mk A40
 clear A40
 simp only [Option.some.injEq, Prod.mk.injEq] at H
 obtain ⟨rfl, rfl, rfl⟩ := H
 go_enter Try.func43, Try.ntmps43
 go_wp2_with (first | ((with_reducible refine gate_dst (N := 2) rfl ?_); refine gbox (N := 2) (cs := #[.int .u64 a0_0, .int .u64 a0_1]) (t := 68) ?_; intro gb183 hg w5 hbox hb; refine ax4 (below_step bel hb) hbox ((ge hg : w.heap.size ≤ gb183)) ((ge hg : w.heap.size ≤ gb183)) ?_; clear HB; intro HB BK183 GW183 GE183; clear hb hbox hg) | ((with_reducible refine gate_dst (N := 3) rfl ?_); refine gbox (N := 3) (cs := #[.int .u64 a1_0, .int .u64 a1_1]) (t := 68) ?_; intro gb184 hg w6 hbox hb; refine ax7 (bb BK183 hb) (below_step bes hb) hbox ((ge hg : w.heap.size ≤ gb184)) ((ge hg : w.heap.size ≤ gb184)) (nl hg BK183) (ng hg BK183) ?_; clear BK183; clear HB; intro BK183 HB BK184 GW184 GE184 NB183_184 NB184_183; clear hb hbox hg) | ((with_reducible refine gate_dst (N := 4) rfl ?_); refine gbox (N := 4) (cs := #[.int .u64 0, .int .u64 0]) (t := 68) ?_; intro gb185 hg w7 hbox hb; refine ax10 (bb BK183 hb) (bb BK184 hb) (below_step bes hb) hbox ((ge hg : w.heap.size ≤ gb185)) ((ge hg : w.heap.size ≤ gb185)) (nl hg BK183) (ng hg BK183) (nl hg BK184) (ng hg BK184) ?_; clear BK183; clear BK184; clear HB; intro BK183 BK184 HB BK185 GW185 GE185 NB183_185 NB185_183 NB184_185 NB185_184; clear hb hbox hg; have hnb8 := NB183_184.out; have hnc8 := NB184_183.out; have hnb9 := NB183_185.out; have hnc9 := NB185_183.out; have hcz10_0 := bc BK183 0 rfl; have hcz10_1 := bc BK183 1 rfl; have hfz10_0 := blk_frozen BK183.out 0; have hfz10_1 := blk_frozen BK183.out 1; have hnb11 := NB184_185.out; have hnc11 := NB185_184.out; have hcz12_0 := bc BK184 0 rfl; have hcz12_1 := bc BK184 1 rfl; have hfz12_0 := blk_frozen BK184.out 0; have hfz12_1 := blk_frozen BK184.out 1) | ((with_reducible refine gate_callee (f := 51) rfl ?_); refine goesX_ (some 14) rfl rfl rfl #[.int .u64 a0_1, .int .u64 a1_1, .int .u64 0] (by (try simp only [List.map_toArray, List.map_cons, List.map_nil]); first | done | rfl) _ (bits_Sub64.run a0_1 a1_1 0 t186 t187 _ A3.out) ?_) | ((with_reducible refine gate_callee (f := 51) rfl ?_); refine goesX_ (some 23) rfl rfl rfl #[.int .u64 a0_0, .int .u64 a1_0, .int .u64 t187] (by (try simp only [List.map_toArray, List.map_cons, List.map_nil]); first | done | rfl) _ (bits_Sub64.run a0_0 a1_0 t187 t188 t189 _ A4.out) ?_; have hcz13_0 := bc BK185 0 rfl; have hcz13_1 := bc BK185 1 rfl; have hfz13_0 := blk_frozen BK185.out 0; have hfz13_1 := blk_frozen BK185.out 1))
 refine bodyPost_ret (results_ct rfl _ _ gb185 68 #[.int .u64 t188, .int .u64 t186] (0, 0) _ rfl (bp BK185) Try.underlying68 rfl (by kernel_rfl)) rfl ?_
 exact ⟨er, bes⟩

/-! ### soft_Add: function 30 -/
mutual
def soft_Add.j0 : Nat → Int → Int → Int → Int → Bool → Option (Int × Int)
 | 0, _, _, _, _, _ => none
 | k + 1, x0, x1, x9, x10, x37 => if x37 = true then (some (9221120237041090560, 16)) else (if x9 = 4 then (some (x0, 0)) else (if x10 = 4 then (some (x1, 0)) else (if x9 = 1 then (soft_Add.j1 k x0 x1 x9 x10 (x10 == 1)) else (soft_Add.j1 k x0 x1 x9 x10 false))))
def soft_Add.j1 : Nat → Int → Int → Int → Int → Bool → Option (Int × Int)
 | 0, _, _, _, _, _ => none
 | k + 1, x0, x1, x9, x10, x57 => if x57 = true then (some (Go.bits .and .u64 x0 x1, 0)) else (if x9 = 1 then (some (x1, 0)) else (if x10 = 1 then (some (x0, 0)) else ((word_Abs.f x0).bind fun t198 => ((word_Abs.f x1).bind fun t199 => (if t198 < t199 then (soft_Add.j2 k x1 x0) else (soft_Add.j2 k x0 x1))))))
def soft_Add.j2 : Nat → Int → Int → Option (Int × Int)
 | 0, _, _ => none
 | k + 1, x0, x1 => (word_Parts.f k x0).bind fun bt200 => ((word_Parts.f k x1).bind fun bt202 => ((wide_Wide_Left.f 0 bt200.1 64).bind fun bt204 => ((wide_Wide_Left.f 0 bt202.1 64).bind fun bt207 => ((wide_Wide_Right.f k bt207.1 bt207.2 (wrap64 (bt200.2 - bt202.2))).bind fun bt209 => ((word_Neg.f x0).bind fun t213 => ((word_Neg.f x1).bind fun t214 => (if (t213 == t214) = true then ((wide_Wide_Add.f bt204.1 bt204.2 bt209.1 bt209.2.1).bind fun bt215 => ((word_Neg.f x0).bind fun t219 => ((round_Round.f k t219 bt215.1 bt215.2.1 (wrap64 (bt200.2 - 64)) bt209.2.2).bind fun bt220 => (some (bt220.1, bt220.2))))) else (if bt209.2.2 = true then ((wide_Wide_Add.f bt209.1 bt209.2.1 0 1).bind fun bt222 => (soft_Add.j3 k x0 bt200.2 bt209.2.2 bt204.1 bt204.2 bt222.1 bt222.2.1)) else (soft_Add.j3 k x0 bt200.2 bt209.2.2 bt204.1 bt204.2 bt209.1 bt209.2.1)))))))))
def soft_Add.j3 : Nat → Int → Int → Bool → Int → Int → Int → Int → Option (Int × Int)
 | 0, _, _, _, _, _, _, _ => none
 | k + 1, x0, x12, x17, x207000, x207001, x213000, x213001 => (wide_Wide_Sub.f x207000 x207001 x213000 x213001).bind fun bt225 => ((wide_Wide_Zero.f bt225.1 bt225.2.1).bind fun t229 => (if t229 = true then (soft_Add.j4 k x0 x12 x17 (!x17) bt225.1 bt225.2.1) else (soft_Add.j4 k x0 x12 x17 false bt225.1 bt225.2.1)))
def soft_Add.j4 : Nat → Int → Int → Bool → Bool → Int → Int → Option (Int × Int)
 | 0, _, _, _, _, _, _ => none
 | k + 1, x0, x12, x17, x143, x229000, x229001 => if x143 = true then (some (0, 0)) else ((word_Neg.f x0).bind fun t230 => ((round_Round.f k t230 x229000 x229001 (wrap64 (x12 - 64)) x17).bind fun bt231 => (some (bt231.1, bt231.2))))
end
def soft_Add.f (k : Nat) (a0 : Int) (a1 : Int) : Option (Int × Int) := (soft_nan.f k (([a0, a1] : List Int))).bind fun bt193 => (if bt193.2.2 = true then (some (bt193.1, bt193.2.1)) else ((word_Kind.f k a0).bind fun t196 => ((word_Kind.f k a1).bind fun t197 => (if t196 = 4 then (if t197 = 4 then (soft_Add.j0 k a0 a1 t196 t197 (a0 != a1)) else (soft_Add.j0 k a0 a1 t196 t197 false)) else (soft_Add.j0 k a0 a1 t196 t197 false)))))
theorem soft_Add.mono_l : ∀ k, (∀ y0 y1 y2 y3 y4, LeO (soft_Add.j0 k y0 y1 y2 y3 y4) (soft_Add.j0 (k + 1) y0 y1 y2 y3 y4)) ∧ (∀ y0 y1 y2 y3 y4, LeO (soft_Add.j1 k y0 y1 y2 y3 y4) (soft_Add.j1 (k + 1) y0 y1 y2 y3 y4)) ∧ (∀ y0 y1, LeO (soft_Add.j2 k y0 y1) (soft_Add.j2 (k + 1) y0 y1)) ∧ (∀ y0 y1 y2 y3 y4 y5 y6, LeO (soft_Add.j3 k y0 y1 y2 y3 y4 y5 y6) (soft_Add.j3 (k + 1) y0 y1 y2 y3 y4 y5 y6)) ∧ (∀ y0 y1 y2 y3 y4 y5, LeO (soft_Add.j4 k y0 y1 y2 y3 y4 y5) (soft_Add.j4 (k + 1) y0 y1 y2 y3 y4 y5))
 | 0 => ⟨fun _ _ _ _ _ r h => by simp [soft_Add.j0] at h, fun _ _ _ _ _ r h => by simp [soft_Add.j1] at h, fun _ _ r h => by simp [soft_Add.j2] at h, fun _ _ _ _ _ _ _ r h => by simp [soft_Add.j3] at h, fun _ _ _ _ _ _ r h => by simp [soft_Add.j4] at h⟩
 | k + 1 => by
  obtain ⟨ih0, ih1, ih2, ih3, ih4⟩ := soft_Add.mono_l k
  refine ⟨?_, ?_, ?_, ?_, ?_⟩ <;> intros <;> (first | unfold soft_Add.j0 | unfold soft_Add.j1 | unfold soft_Add.j2 | unfold soft_Add.j3 | unfold soft_Add.j4) <;>
   repeat' with_reducible first | apply ih0 | apply ih1 | apply ih2 | apply ih3 | apply ih4 | apply round_Round.mono | apply soft_nan.mono | apply wide_Wide_Right.mono | apply word_Kind.mono | apply word_Parts.mono | exact LeO.refl _ | exact LeO.none _ | refine LeO.ite ?_ ?_ | refine LeO.bind ?_ (fun _ => ?_)
theorem soft_Add.mono : ∀ a0 a1 k, LeO (soft_Add.f k a0 a1) (soft_Add.f (k + 1) a0 a1) := by
 intro a0 a1 k
 obtain ⟨ih0, ih1, ih2, ih3, ih4⟩ := soft_Add.mono_l k
 unfold soft_Add.f
 repeat' with_reducible first | apply ih0 | apply ih1 | apply ih2 | apply ih3 | apply ih4 | apply round_Round.mono | apply soft_nan.mono | apply wide_Wide_Right.mono | apply word_Kind.mono | apply word_Parts.mono | exact LeO.refl _ | exact LeO.none _ | refine LeO.ite ?_ ?_ | refine LeO.bind ?_ (fun _ => ?_)
def soft_Add.T25 : Bool × List (List Nat × List Nat) := (true, [([], []), ([0], [0]), ([], []), ([], []), ([3], [3]), ([], []), ([1, 2, 4, 5, 1], [1, 2, 4, 5]), ([6], [6]), ([6], [6]), ([7, 6, 0, 1, 2, 3, 4, 5, 6, 7, 8], [7]), ([8, 9, 0, 1, 2, 3, 4, 5, 6, 7, 8, 9], [8])])
def soft_Add.B25 : List Nat := [0, 1, 0, 0, 8, 0, 63, 127, 127, 511, 1023]
theorem soft_Add.tab25 : rtab .any (opsOf Try.f30 25) = soft_Add.T25 := by kernel_rfl
theorem soft_Add.bits25 : waitsOk soft_Add.T25.2 soft_Add.B25 = true := by kernel_rfl
def soft_Add.T31 : Bool × List (List Nat × List Nat) := (true, [([], []), ([0], [0]), ([], []), ([], []), ([3], [3]), ([], []), ([1, 2, 4, 5, 1], [1, 2, 4, 5]), ([6], [6]), ([6], [6]), ([7, 6, 0, 1, 2, 3, 4, 5, 6, 7, 8], [7]), ([8, 9, 0, 1, 2, 3, 4, 5, 6, 7, 8, 9], [8])])
def soft_Add.B31 : List Nat := [0, 1, 0, 0, 8, 0, 63, 127, 127, 511, 1023]
theorem soft_Add.tab31 : rtab .any (opsOf Try.f30 31) = soft_Add.T31 := by kernel_rfl
theorem soft_Add.bits31 : waitsOk soft_Add.T31.2 soft_Add.B31 = true := by kernel_rfl
set_option maxHeartbeats 8000000 in
set_option maxRecDepth 100000 in
theorem soft_Add.calls (k : Nat) (a0 : Int) (a1 : Int) (r1 : Int) (r2 : Int) (w : World) (h : soft_Add.f k a0 a1 = some (r1, r2)) :
  Calls Try.prog 30 #[.int .u64 a0, .int .u64 a1] w fun e w' => e = .returned (.tuple #[.int .u64 r1, .int .u8 r2]) ∧ Below w.heap.size w w' := by
 have hu68 := Try.underlying68
 have HB := Aside0.mk (Below.refl w.heap.size w)
 have H : ((soft_nan.f k (([a0, a1] : List Int))).bind fun bt193 => (if bt193.2.2 = true then (some (bt193.1, bt193.2.1)) else ((word_Kind.f k a0).bind fun t196 => ((word_Kind.f k a1).bind fun t197 => (if t196 = 4 then (if t197 = 4 then (soft_Add.j0 k a0 a1 t196 t197 (a0 != a1)) else (soft_Add.j0 k a0 a1 t196 t197 false)) else (soft_Add.j0 k a0 a1 t196 t197 false)))))) = some (r1, r2) := h
 clear h
 obtain ⟨y190, hy190⟩ : ∃ y_ : List Int, y_ = (([a0, a1] : List Int)) := ⟨_, rfl⟩
 replace H : ((soft_nan.f k y190).bind fun bt193 => (if bt193.2.2 = true then (some (bt193.1, bt193.2.1)) else ((word_Kind.f k a0).bind fun t196 => ((word_Kind.f k a1).bind fun t197 => (if t196 = 4 then (if t197 = 4 then (soft_Add.j0 k a0 a1 t196 t197 (a0 != a1)) else (soft_Add.j0 k a0 a1 t196 t197 false)) else (soft_Add.j0 k a0 a1 t196 t197 false)))))) = some (r1, r2) := by first | (rw [hy190]; with_reducible exact H) | (have H2_ := (Option.bind_some _ _).symm.trans H; rw [hy190]; with_reducible exact H2_) | (have H2_ := (Option.bind_some _ _).symm.trans H; with_reducible exact H2_) | with_reducible exact H | (rw [hy190]; exact H) | exact H
 have Ny190 := Aside0.mk hy190
 clear hy190
 obtain ⟨⟨t193, t194, t195⟩, A30, H⟩ := Option.bind_eq_some_iff.mp H
 (try dsimp -simprocs only at H)
 have A3 := Aside0.mk A30
 clear A30
 by_cases c4 : t195 = true
 ·
  subst c4
  rw [if_pos rfl] at H
  simp only [Option.some.injEq, Prod.mk.injEq] at H
  obtain ⟨rfl, rfl⟩ := H
  go_enter Try.func30, Try.ntmps30
  go_wp2_with (first | ((with_reducible refine gate_dst (N := 25) rfl ?_); refine Kd.R_lit (Kd.int .u64) _ 33 ?hg (N := 25) ?hd (xs := ([a0, a1] : List Int)) (inner := [.int .u64 a0, .int .u64 a1]) (ok := fun _ => True) (okp := fun _ => True) ?hr ?hp (fun _ hk => hk) trivial (Below.refl _ _) (Nat.le_refl _) (by simp) ?_; (case hd => rfl); (case hg => rfl); (case hr => first | (go_simp; done) | (go_simp; rfl)); (case hp => exact (Reps.one (show Kd.M (Kd.int .u64) _ _ _ a0 [.int .u64 a0] from rfl) (Reps.one (show Kd.M (Kd.int .u64) _ _ _ a1 [.int .u64 a1] from rfl) (Reps.none _ _)))); intro v191 w5 ho6 hb hg_ hnew_; clear hg_ hnew_; (first | rw [← Ny190.out] at ho6 | (simp only [Int.reduceToNat] at ho6; rw [← Ny190.out] at ho6)); refine ax2 (Kd.R_lower ho6 (below_size bel)) (below_step bel hb) ?_; clear HB; intro HO192 HB; clear hb ho6; obtain ⟨Ao7, co7, eo7⟩ := Kd.R_slice HO192.out; subst eo7) | ((with_reducible refine gate_callee (f := 33) rfl ?_); refine goesL_ (some 26) rfl rfl Try.func33 (by kernel_rfl) rfl #[.slice Ao7 y190.length co7] rfl ga ?_; (with_reducible refine (soft_nan.calls k _ _ y190 t193 t194 true _ ?side1 ?side2 A3.out).mono ?_); (case side1 => exact ks HO192); (case side2 => exact (Kd.R_reads' HO192.out).2.1); rintro e w' ⟨rfl, ⟨nd, rfl⟩⟩; refine ⟨_, rfl, ?_⟩))
  go_ret2
  exact ⟨er, bel⟩
 ·
  replace c4 := Bool.eq_false_iff.mpr c4
  subst c4
  rw [if_neg (show ¬ (false = true) by decide)] at H
  obtain ⟨t196, A80, H⟩ := Option.bind_eq_some_iff.mp H
  (try dsimp -simprocs only at H)
  have A8 := Aside0.mk A80
  clear A80
  obtain ⟨t197, A90, H⟩ := Option.bind_eq_some_iff.mp H
  (try dsimp -simprocs only at H)
  have A9 := Aside0.mk A90
  clear A90
  have HC10 := Aside0.mk H
  clear H
  go_enter Try.func30, Try.ntmps30
  go_upto_region 5 with (first | ((with_reducible refine gate_dst (N := 25) rfl ?_); refine Kd.R_lit (Kd.int .u64) _ 33 ?hg (N := 25) ?hd (xs := ([a0, a1] : List Int)) (inner := [.int .u64 a0, .int .u64 a1]) (ok := fun _ => True) (okp := fun _ => True) ?hr ?hp (fun _ hk => hk) trivial (Below.refl _ _) (Nat.le_refl _) (by simp) ?_; (case hd => rfl); (case hg => rfl); (case hr => first | (go_simp; done) | (go_simp; rfl)); (case hp => exact (Reps.one (show Kd.M (Kd.int .u64) _ _ _ a0 [.int .u64 a0] from rfl) (Reps.one (show Kd.M (Kd.int .u64) _ _ _ a1 [.int .u64 a1] from rfl) (Reps.none _ _)))); intro v191 w11 ho12 hb hg_ hnew_; clear hg_ hnew_; (first | rw [← Ny190.out] at ho12 | (simp only [Int.reduceToNat] at ho12; rw [← Ny190.out] at ho12)); refine ax2 (Kd.R_lower ho12 (below_size bel)) (below_step bel hb) ?_; clear HB; intro HO192 HB; clear hb ho12; obtain ⟨Ao13, co13, eo13⟩ := Kd.R_slice HO192.out; subst eo13) | ((with_reducible refine gate_callee (f := 33) rfl ?_); refine goesL_ (some 26) rfl rfl Try.func33 (by kernel_rfl) rfl #[.slice Ao13 y190.length co13] rfl ga ?_; (with_reducible refine (soft_nan.calls k _ _ y190 t193 t194 false _ ?side1 ?side2 A3.out).mono ?_); (case side1 => exact ks HO192); (case side2 => exact (Kd.R_reads' HO192.out).2.1); rintro e w' ⟨rfl, ⟨nd, rfl⟩⟩; refine ⟨_, rfl, ?_⟩) | ((with_reducible refine gate_callee (f := 35) rfl ?_); refine goesL_ (some 34) rfl rfl Try.func35 (by kernel_rfl) rfl #[.int .u64 a0] rfl ga ?_; (with_reducible refine (word_Kind.calls k a0 t196 _ A8.out).mono ?_); rintro e w' ⟨rfl, ⟨nd, rfl⟩⟩; refine ⟨_, rfl, ?_⟩) | ((with_reducible refine gate_callee (f := 35) rfl ?_); refine goesL_ (some 36) rfl rfl Try.func35 (by kernel_rfl) rfl #[.int .u64 a1] rfl ga ?_; (with_reducible refine (word_Kind.calls k a1 t197 _ A9.out).mono ?_); rintro e w' ⟨rfl, ⟨nd, rfl⟩⟩; refine ⟨_, rfl, ?_⟩))
  (try simp only [Act.put, sa0, sa1, sa2])
  go_cut [37] (fun v37 wc => ∃ (kq : Nat) (x37_9 : Bool), v37 = .bool x37_9 ∧ Aside0 (soft_Add.j0 kq a0 a1 t196 t197 x37_9 = some (r1, r2)) ∧ Aside0 (kq ≤ k) ∧ Aside0 (Below w.heap.size w wc))
  case first =>
   have H := HC10.out
   clear HC10
   by_cases c14 : t196 = 4
   rotate_left
   ·
    rw [if_neg c14] at H
    have c14b0 : (t196 == 4) = false := beq_eq_false_iff_ne.mpr c14
    have c14b1 : (t196 != 4) = true := bne_iff_ne.mpr c14
    (first | rw [c14b0] | (simp only [i64_w, i32_w]; rw [c14b0]) | skip)
    have H' := Aside0.mk H
    clear H
    go_wp2
    go_meet
    case rel => exact ⟨_, (false), (by first | rfl | (simp; done) | (simp [*]; done)), H', ⟨by first | omega | exact Nat.le_refl _⟩, ⟨bel⟩⟩
   rw [if_pos c14] at H
   have c14b0 : (t196 == 4) = true := beq_iff_eq.mpr c14
   have c14b1 : (t196 != 4) = false := bne_eq_false_iff_eq.mpr c14
   clear c14
   (first | rw [c14b0] | (simp only [i64_w, i32_w]; rw [c14b0]) | skip)
   by_cases c15 : t197 = 4
   rotate_left
   ·
    rw [if_neg c15] at H
    have c15b0 : (t197 == 4) = false := beq_eq_false_iff_ne.mpr c15
    have c15b1 : (t197 != 4) = true := bne_iff_ne.mpr c15
    have H' := Aside0.mk H
    clear H
    go_wp2
    go_meet
    case rel => exact ⟨_, (false), (by first | rfl | (simp; done) | (simp [*]; done)), H', ⟨by first | omega | exact Nat.le_refl _⟩, ⟨bel⟩⟩
   rw [if_pos c15] at H
   have c15b0 : (t197 == 4) = true := beq_iff_eq.mpr c15
   have c15b1 : (t197 != 4) = false := bne_eq_false_iff_eq.mpr c15
   clear c15
   have H' := Aside0.mk H
   clear H
   go_wp2
   go_meet
   case rel => exact ⟨_, ((a0 != a1)), (by first | rfl | (simp; done) | (simp [*]; done)), H', ⟨by first | omega | exact Nat.le_refl _⟩, ⟨bel⟩⟩
  case rest =>
   clear HC10
   try clear c1
   try clear p2
   try clear c3
   try clear c4
   try clear c14
   try clear c14b0
   try clear c14b1
   try clear c15
   try clear c15b0
   try clear c15b1
   obtain ⟨kq, x37_9, rfl, HA, HJ9, HB⟩ := hcut
   cases kq with
   | zero => exact absurd HA.out (by simp [soft_Add.j0])
   | succ kj9 =>
    have H := HA.out
    clear HA
    simp only [soft_Add.j0] at H
    by_cases c16 : x37_9 = true
    ·
     subst c16
     rw [if_pos rfl] at H
     simp only [Option.some.injEq, Prod.mk.injEq] at H
     obtain ⟨rfl, rfl⟩ := H
     go_wp2
     go_ret2
     exact ⟨er, bel⟩
    ·
     replace c16 := Bool.eq_false_iff.mpr c16
     subst c16
     rw [if_neg (show ¬ (false = true) by decide)] at H
     by_cases c17 : t196 = 4
     ·
      rw [if_pos c17] at H
      have c17b0 : (t196 == 4) = true := beq_iff_eq.mpr c17
      have c17b1 : (t196 != 4) = false := bne_eq_false_iff_eq.mpr c17
      clear c17
      simp only [Option.some.injEq, Prod.mk.injEq] at H
      obtain ⟨rfl, rfl⟩ := H
      go_wp2
      go_ret2
      exact ⟨er, bel⟩
     ·
      rw [if_neg c17] at H
      have c17b0 : (t196 == 4) = false := beq_eq_false_iff_ne.mpr c17
      have c17b1 : (t196 != 4) = true := bne_iff_ne.mpr c17
      by_cases c18 : t197 = 4
      ·
       rw [if_pos c18] at H
       have c18b0 : (t197 == 4) = true := beq_iff_eq.mpr c18
       have c18b1 : (t197 != 4) = false := bne_eq_false_iff_eq.mpr c18
       clear c18
       simp only [Option.some.injEq, Prod.mk.injEq] at H
       obtain ⟨rfl, rfl⟩ := H
       go_wp2
       go_ret2
       exact ⟨er, bel⟩
      ·
       rw [if_neg c18] at H
       have c18b0 : (t197 == 4) = false := beq_eq_false_iff_ne.mpr c18
       have c18b1 : (t197 != 4) = true := bne_iff_ne.mpr c18
       have HC19 := Aside0.mk H
       clear H
       go_upto_region 11 with (fail)
       go_cut [57] (fun v57 wc => ∃ (kq : Nat) (x57_18 : Bool), v57 = .bool x57_18 ∧ Aside0 (soft_Add.j1 kq a0 a1 t196 t197 x57_18 = some (r1, r2)) ∧ Aside0 (kq ≤ kj9) ∧ Aside0 (Below w.heap.size w wc))
       case first =>
        have H := HC19.out
        clear HC19
        by_cases c20 : t196 = 1
        rotate_left
        ·
         rw [if_neg c20] at H
         have c20b0 : (t196 == 1) = false := beq_eq_false_iff_ne.mpr c20
         have c20b1 : (t196 != 1) = true := bne_iff_ne.mpr c20
         (first | rw [c20b0] | (simp only [i64_w, i32_w]; rw [c20b0]) | skip)
         have H' := Aside0.mk H
         clear H
         go_wp2
         go_meet
         case rel => exact ⟨_, (false), (by first | rfl | (simp; done) | (simp [*]; done)), H', ⟨by have := HJ9.out; first | omega | exact Nat.le_refl _⟩, ⟨bel⟩⟩
        rw [if_pos c20] at H
        have c20b0 : (t196 == 1) = true := beq_iff_eq.mpr c20
        have c20b1 : (t196 != 1) = false := bne_eq_false_iff_eq.mpr c20
        clear c20
        (first | rw [c20b0] | (simp only [i64_w, i32_w]; rw [c20b0]) | skip)
        have H' := Aside0.mk H
        clear H
        go_wp2
        go_meet
        case rel => exact ⟨_, ((t197 == 1)), (by first | rfl | (simp; done) | (simp [*]; done)), H', ⟨by have := HJ9.out; first | omega | exact Nat.le_refl _⟩, ⟨bel⟩⟩
       case rest =>
        clear HC19
        try clear c1
        try clear c2
        try clear p2
        try clear c3
        try clear c4
        try clear c14
        try clear c14b0
        try clear c14b1
        try clear c15
        try clear c15b0
        try clear c15b1
        try clear c16
        try clear c17
        try clear c17b0
        try clear c17b1
        try clear c18
        try clear c18b0
        try clear c18b1
        try clear c20
        try clear c20b0
        try clear c20b1
        try clear p2
        obtain ⟨kq, x57_18, rfl, HA, HJ18, HB⟩ := hcut
        cases kq with
        | zero => exact absurd HA.out (by simp [soft_Add.j1])
        | succ kj18 =>
         have H := HA.out
         clear HA
         simp only [soft_Add.j1] at H
         by_cases c21 : x57_18 = true
         ·
          subst c21
          rw [if_pos rfl] at H
          simp only [Option.some.injEq, Prod.mk.injEq] at H
          obtain ⟨rfl, rfl⟩ := H
          go_wp2
          go_ret2
          exact ⟨er, bel⟩
         ·
          replace c21 := Bool.eq_false_iff.mpr c21
          subst c21
          rw [if_neg (show ¬ (false = true) by decide)] at H
          by_cases c22 : t196 = 1
          ·
           rw [if_pos c22] at H
           have c22b0 : (t196 == 1) = true := beq_iff_eq.mpr c22
           have c22b1 : (t196 != 1) = false := bne_eq_false_iff_eq.mpr c22
           clear c22
           simp only [Option.some.injEq, Prod.mk.injEq] at H
           obtain ⟨rfl, rfl⟩ := H
           go_wp2
           go_ret2
           exact ⟨er, bel⟩
          ·
           rw [if_neg c22] at H
           have c22b0 : (t196 == 1) = false := beq_eq_false_iff_ne.mpr c22
           have c22b1 : (t196 != 1) = true := bne_iff_ne.mpr c22
           by_cases c23 : t197 = 1
           ·
            rw [if_pos c23] at H
            have c23b0 : (t197 == 1) = true := beq_iff_eq.mpr c23
            have c23b1 : (t197 != 1) = false := bne_eq_false_iff_eq.mpr c23
            clear c23
            simp only [Option.some.injEq, Prod.mk.injEq] at H
            obtain ⟨rfl, rfl⟩ := H
            go_wp2
            go_ret2
            exact ⟨er, bel⟩
           ·
            rw [if_neg c23] at H
            have c23b0 : (t197 == 1) = false := beq_eq_false_iff_ne.mpr c23
            have c23b1 : (t197 != 1) = true := bne_iff_ne.mpr c23
            obtain ⟨t198, A240, H⟩ := Option.bind_eq_some_iff.mp H
            (try dsimp -simprocs only at H)
            have A24 := Aside0.mk A240
            clear A240
            obtain ⟨t199, A250, H⟩ := Option.bind_eq_some_iff.mp H
            (try dsimp -simprocs only at H)
            have A25 := Aside0.mk A250
            clear A250
            have HC26 := Aside0.mk H
            clear H
            go_upto_if 79 with (first | ((with_reducible refine gate_callee (f := 12) rfl ?_); refine goesL_ (some 76) rfl rfl Try.func12 (by kernel_rfl) rfl #[.int .u64 a0] rfl ga ?_; (with_reducible refine (word_Abs.calls a0 t198 _ A24.out).mono ?_); rintro e w' ⟨rfl, ⟨nd, rfl⟩⟩; refine ⟨_, rfl, ?_⟩) | ((with_reducible refine gate_callee (f := 12) rfl ?_); refine goesL_ (some 78) rfl rfl Try.func12 (by kernel_rfl) rfl #[.int .u64 a1] rfl ga ?_; (with_reducible refine (word_Abs.calls a1 t199 _ A25.out).mono ?_); rintro e w' ⟨rfl, ⟨nd, rfl⟩⟩; refine ⟨_, rfl, ?_⟩))
            (try simp only [Act.put, sa0, sa1, sa2])
            go_cut [0, 1] (fun v0 v1 wc => ∃ (kq : Nat) (x0_25 : Int) (x1_25 : Int), v0 = .int .u64 x0_25 ∧ v1 = .int .u64 x1_25 ∧ Aside0 (soft_Add.j2 kq x0_25 x1_25 = some (r1, r2)) ∧ Aside0 (kq ≤ kj18) ∧ Aside0 (Below w.heap.size w wc))
            case first =>
             have H := HC26.out
             clear HC26
             by_cases c27 : t198 < t199
             rotate_left
             ·
              rw [if_neg c27] at H
              have c27b0 : decide (t198 < t199) = false := decide_eq_false c27
              clear c27
              (first | rw [c27b0] | (simp only [i64_w, i32_w]; rw [c27b0]) | skip)
              have H' := Aside0.mk H
              clear H
              go_wp2
              go_meet
              case rel => exact ⟨_, (a0), (a1), (by first | rfl | (simp; done) | (simp [*]; done)), (by first | rfl | (simp; done) | (simp [*]; done)), H', ⟨by have := HJ9.out; have := HJ18.out; first | omega | exact Nat.le_refl _⟩, ⟨bel⟩⟩
             rw [if_pos c27] at H
             have c27b0 : decide (t198 < t199) = true := decide_eq_true c27
             clear c27
             (first | rw [c27b0] | (simp only [i64_w, i32_w]; rw [c27b0]) | skip)
             have H' := Aside0.mk H
             clear H
             go_wp2
             go_meet
             case rel => exact ⟨_, (a1), (a0), (by first | rfl | (simp; done) | (simp [*]; done)), (by first | rfl | (simp; done) | (simp [*]; done)), H', ⟨by have := HJ9.out; have := HJ18.out; first | omega | exact Nat.le_refl _⟩, ⟨bel⟩⟩
            case rest =>
             clear HC26
             try clear c1
             try clear c2
             try clear p2
             try clear c3
             try clear c4
             try clear c12
             try clear c14
             try clear c14b0
             try clear c14b1
             try clear c15
             try clear c15b0
             try clear c15b1
             try clear c16
             try clear c17
             try clear c17b0
             try clear c17b1
             try clear c18
             try clear c18b0
             try clear c18b1
             try clear c20
             try clear c20b0
             try clear c20b1
             try clear c21
             try clear c22
             try clear c22b0
             try clear c22b1
             try clear c23
             try clear c23b0
             try clear c23b1
             try clear c27
             try clear c27b0
             try clear p2
             obtain ⟨kq, x0_25, x1_25, rfl, rfl, HA, HJ25, HB⟩ := hcut
             cases kq with
             | zero => exact absurd HA.out (by simp [soft_Add.j2])
             | succ kj25 =>
              have H := HA.out
              clear HA
              simp only [soft_Add.j2] at H
              obtain ⟨⟨t200, t201⟩, A280, H⟩ := Option.bind_eq_some_iff.mp H
              (try dsimp -simprocs only at H)
              have A28 := Aside0.mk A280
              clear A280
              obtain ⟨⟨t202, t203⟩, A290, H⟩ := Option.bind_eq_some_iff.mp H
              (try dsimp -simprocs only at H)
              have A29 := Aside0.mk A290
              clear A290
              obtain ⟨⟨t204, t205⟩, A300, H⟩ := Option.bind_eq_some_iff.mp H
              (try dsimp -simprocs only at H)
              have A30 := Aside0.mk A300
              clear A300
              obtain ⟨⟨t207, t208⟩, A310, H⟩ := Option.bind_eq_some_iff.mp H
              (try dsimp -simprocs only at H)
              have A31 := Aside0.mk A310
              clear A310
              obtain ⟨⟨t209, t210, t211⟩, A320, H⟩ := Option.bind_eq_some_iff.mp H
              (try dsimp -simprocs only at H)
              have A32 := Aside0.mk A320
              clear A320
              obtain ⟨t213, A330, H⟩ := Option.bind_eq_some_iff.mp H
              (try dsimp -simprocs only at H)
              have A33 := Aside0.mk A330
              clear A330
              obtain ⟨t214, A340, H⟩ := Option.bind_eq_some_iff.mp H
              (try dsimp -simprocs only at H)
              have A34 := Aside0.mk A340
              clear A340
              by_cases c35 : (t213 == t214) = true
              ·
               rw [if_pos c35] at H
               have c35b0 : (t213 == t214) = true := c35
               (try (have c35b1 : decide (t213 = t214) = true := by simpa using c35))
               (try (have c35b2 : (t213 == t214) = true := by simpa using c35))
               clear c35
               obtain ⟨⟨t215, t216, t217⟩, A360, H⟩ := Option.bind_eq_some_iff.mp H
               (try dsimp -simprocs only at H)
               have A36 := Aside0.mk A360
               clear A360
               obtain ⟨t219, A370, H⟩ := Option.bind_eq_some_iff.mp H
               (try dsimp -simprocs only at H)
               have A37 := Aside0.mk A370
               clear A370
               obtain ⟨⟨t220, t221⟩, A380, H⟩ := Option.bind_eq_some_iff.mp H
               (try dsimp -simprocs only at H)
               have A38 := Aside0.mk A380
               clear A380
               simp only [Option.some.injEq, Prod.mk.injEq] at H
               obtain ⟨rfl, rfl⟩ := H
               try go_wp2_with (first | ((with_reducible refine gate_callee (f := 37) rfl ?_); refine goesL_ (some 84) rfl rfl Try.func37 (by kernel_rfl) rfl #[.int .u64 x0_25] rfl ga ?_; (with_reducible refine (word_Parts.calls kj25 x0_25 t200 t201 _ A28.out).mono ?_); rintro e w' ⟨rfl, ⟨nd, rfl⟩⟩; refine ⟨_, rfl, ?_⟩; (try (rw [drewN_self wc]; generalize hq_ : World.drewN wc _ = wc; have n0_ : Aside0 (Below w.heap.size w wc) := ⟨by rw [← hq_]; exact bel⟩; clear HB hq_; have HB := n0_; clear n0_))) | ((with_reducible refine gate_callee (f := 37) rfl ?_); refine goesL_ (some 89) rfl rfl Try.func37 (by kernel_rfl) rfl #[.int .u64 x1_25] rfl ga ?_; (with_reducible refine (word_Parts.calls kj25 x1_25 t202 t203 _ A29.out).mono ?_); rintro e w' ⟨rfl, ⟨nd, rfl⟩⟩; refine ⟨_, rfl, ?_⟩; (try (rw [drewN_self wc]; generalize hq_ : World.drewN wc _ = wc; have n0_ : Aside0 (Below w.heap.size w wc) := ⟨by rw [← hq_]; exact bel⟩; clear HB hq_; have HB := n0_; clear n0_))) | ((with_reducible refine gate_callee (f := 40) rfl ?_); refine goesL_ (some 94) rfl rfl Try.func40 (by kernel_rfl) rfl #[.agg #[.int .u64 0, .int .u64 t200], .int .i64 64] rfl ga ?_; (with_reducible refine (wide_Wide_Left.calls 0 t200 64 t204 t205 _ A30.out).mono ?_); rintro e w39 ⟨rfl, hb⟩; refine ⟨_, rfl, ?_⟩; refine ax1 (below_step bel hb) ?_; clear HB; intro HB; (try clear hb)) | ((with_reducible refine gate_dst (N := 15) rfl ?_); refine gbox (N := 15) (cs := #[.int .u64 0, .int .u64 0]) (t := 68) ?_; intro gb206 hg w40 hbox hb; refine ax4 (below_step bel hb) hbox ((ge hg : w.heap.size ≤ gb206)) ((ge hg : w.heap.size ≤ gb206)) ?_; clear HB; intro HB BK206 GW206 GE206; clear hb hbox hg; have hcz41_0 := bc BK206 0 rfl; have hcz41_1 := bc BK206 1 rfl; have hfz41_0 := blk_frozen BK206.out 0; have hfz41_1 := blk_frozen BK206.out 1) | ((with_reducible refine gate_callee (f := 40) rfl ?_); refine goesL_ (some 98) rfl rfl Try.func40 (by kernel_rfl) rfl #[.agg #[.int .u64 0, .int .u64 t202], .int .i64 64] rfl ga ?_; (with_reducible refine (wide_Wide_Left.calls 0 t202 64 t207 t208 _ A31.out).mono ?_); rintro e w42 ⟨rfl, hb⟩; refine ⟨_, rfl, ?_⟩; refine ax2 (blk_below (g := gb206) (o := .cells #[.int .u64 t204, .int .u64 t205] 68 (0, 0)) (bp BK206) hb) (below_step bes hb) ?_; clear BK206; clear HB; intro BK206 HB; (try clear hb)) | ((with_reducible refine gate_callee (f := 41) rfl ?_); refine goesL_ (some 102) rfl rfl Try.func41 (by kernel_rfl) rfl #[.agg #[.int .u64 t207, .int .u64 t208], .int .i64 (wrap64 (t201 - t203))] rfl ga ?_; (with_reducible refine (wide_Wide_Right.calls kj25 t207 t208 (wrap64 (t201 - t203)) t209 t210 t211 _ A32.out).mono ?_); rintro e w43 ⟨rfl, hb⟩; refine ⟨_, rfl, ?_⟩; refine ax2 (bb BK206 hb) (below_step bes hb) ?_; clear BK206; clear HB; intro BK206 HB; (try clear hb)) | ((with_reducible refine gate_dst (N := 16) rfl ?_); refine gbox (N := 16) (cs := #[.int .u64 0, .int .u64 0]) (t := 68) ?_; intro gb212 hg w44 hbox hb; refine ax7 (bb BK206 hb) (below_step bes hb) hbox ((ge hg : w.heap.size ≤ gb212)) ((ge hg : w.heap.size ≤ gb212)) (nl hg BK206) (ng hg BK206) ?_; clear BK206; clear HB; intro BK206 HB BK212 GW212 GE212 NB206_212 NB212_206; clear hb hbox hg; have hnb45 := NB212_206.out; have hnc45 := NB206_212.out; have hcz46_0 := bc BK212 0 rfl; have hcz46_1 := bc BK212 1 rfl; have hfz46_0 := blk_frozen BK212.out 0; have hfz46_1 := blk_frozen BK212.out 1) | ((with_reducible refine gate_callee (f := 34) rfl ?_); refine goesL_ (some 106) rfl rfl Try.func34 (by kernel_rfl) rfl #[.int .u64 x0_25] rfl ga ?_; (with_reducible refine (word_Neg.calls x0_25 t213 _ A33.out).mono ?_); rintro e w' ⟨rfl, ⟨nd, rfl⟩⟩; refine ⟨_, rfl, ?_⟩) | ((with_reducible refine gate_callee (f := 34) rfl ?_); refine goesL_ (some 108) rfl rfl Try.func34 (by kernel_rfl) rfl #[.int .u64 x1_25] rfl ga ?_; (with_reducible refine (word_Neg.calls x1_25 t214 _ A34.out).mono ?_); rintro e w' ⟨rfl, ⟨nd, rfl⟩⟩; refine ⟨_, rfl, ?_⟩; have hcz47_0 := bc BK206 0 rfl; have hcz47_1 := bc BK206 1 rfl; have hfz47_0 := blk_frozen BK206.out 0; have hfz47_1 := blk_frozen BK206.out 1) | ((with_reducible refine gate_callee (f := 42) rfl ?_); refine goesL_ (some 113) rfl rfl Try.func42 (by kernel_rfl) rfl #[.agg #[.int .u64 t204, .int .u64 t205], .agg #[.int .u64 t209, .int .u64 t210]] rfl ga ?_; (with_reducible refine (wide_Wide_Add.calls t204 t205 t209 t210 t215 t216 t217 _ A36.out).mono ?_); rintro e w48 ⟨rfl, hb⟩; refine ⟨_, rfl, ?_⟩; refine ax3 (blk_below (g := gb206) (o := .cells #[.int .u64 t204, .int .u64 t205] 68 (0, 0)) (bf BK206 NB206_212) hb) (blk_below (g := gb212) (o := .cells #[.int .u64 t209, .int .u64 t210] 68 (0, 0)) (bp BK212) hb) (below_step bes hb) ?_; clear BK206; clear BK212; clear HB; intro BK206 BK212 HB; (try clear hb)) | ((with_reducible refine gate_dst (N := 18) rfl ?_); refine gbox (N := 18) (cs := #[.int .u64 0, .int .u64 0]) (t := 68) ?_; intro gb218 hg w49 hbox hb; refine ax10 (bb BK206 hb) (bb BK212 hb) (below_step bes hb) hbox ((ge hg : w.heap.size ≤ gb218)) ((ge hg : w.heap.size ≤ gb218)) (nl hg BK206) (ng hg BK206) (nl hg BK212) (ng hg BK212) ?_; clear BK206; clear BK212; clear HB; intro BK206 BK212 HB BK218 GW218 GE218 NB206_218 NB218_206 NB212_218 NB218_212; clear hb hbox hg; have hnb50 := NB218_206.out; have hnc50 := NB206_218.out; have hnb51 := NB218_212.out; have hnc51 := NB212_218.out; have hcz52_0 := bc BK218 0 rfl; have hcz52_1 := bc BK218 1 rfl; have hfz52_0 := blk_frozen BK218.out 0; have hfz52_1 := blk_frozen BK218.out 1))
               have n0_ : Aside0 (((w49.setCell ⟨gb218, 0, none⟩ (.int .u64 t215)).setCell ⟨gb218, 1, none⟩ (.int .u64 t216)).heap[gb206]? = some (.cells #[.int .u64 t204, .int .u64 t205] 68 (0, 0))) := ⟨bf BK206 NB206_218⟩
               have n1_ : Aside0 (((w49.setCell ⟨gb218, 0, none⟩ (.int .u64 t215)).setCell ⟨gb218, 1, none⟩ (.int .u64 t216)).heap[gb212]? = some (.cells #[.int .u64 t209, .int .u64 t210] 68 (0, 0))) := ⟨bf BK212 NB212_218⟩
               have n2_ : Aside0 (((w49.setCell ⟨gb218, 0, none⟩ (.int .u64 t215)).setCell ⟨gb218, 1, none⟩ (.int .u64 t216)).heap[gb218]? = some (.cells #[.int .u64 t215, .int .u64 t216] 68 (0, 0))) := ⟨bp BK218⟩
               have n3_ : Aside0 (Below w.heap.size w ((w49.setCell ⟨gb218, 0, none⟩ (.int .u64 t215)).setCell ⟨gb218, 1, none⟩ (.int .u64 t216))) := ⟨bes⟩
               (try clear BK206)
               (try clear BK212)
               (try clear BK218)
               (try clear HB)
               generalize ((w49.setCell ⟨gb218, 0, none⟩ (.int .u64 t215)).setCell ⟨gb218, 1, none⟩ (.int .u64 t216)) = w53 at n0_ n1_ n2_ n3_ ⊢
               have BK206 := n0_
               have BK212 := n1_
               have BK218 := n2_
               have HB := n3_
               clear n0_ n1_ n2_ n3_
               refine ax4 (blk_drew BK206.out) (blk_drew BK212.out) (blk_drew BK218.out) (below_drew1 HB.out) ?_
               clear BK206 BK212 BK218 HB
               intro BK206 BK212 BK218 HB
               refine start_ (n := 11) (S := fun w' => w'.cell? ⟨gb218, 0, none⟩ = some (.int .u64 t215) ∧ w'.cell? ⟨gb218, 1, none⟩ = some (.int .u64 t216)) (ds := []) #[false, false, false, false, false, false, false, false, false, false, false] (by kernel_rfl) rfl rfl ⟨bk BK218 0, bk BK218 1⟩ (fun hHeld => ?_); refine with_tabW soft_Add.tab25 soft_Add.bits25 (fun HT_ HW_ => ?_)
               generalize w53.drew = w54 at BK206 BK212 BK218 HB hHeld ⊢
               refine pu 0 116 (lm 11 1) HT_ ?_
               refine pu 3 119 (lm 11 9) HT_ ?_
               refine pu 4 120 (lm 11 25) HT_ ?_
               refine pu 5 121 (lm 11 57) HT_ ?_
               refine ta 2 118 (lm 11 61) HT_ HW_ hHeld ?_
               refine on 1 (some 117) (lm 11 63) HT_ (fun K hK => ?_)
               refine goes_ Try.func34 (by kernel_rfl) rfl #[.int .u64 x0_25] (by rfl) rfl rfl ga ?_
               with_reducible refine (word_Neg.calls x0_25 t219 _ A37.out).mono ?_
               rintro e w' ⟨rfl, ⟨nd, rfl⟩⟩
               refine ⟨_, rfl, ?_⟩
               refine hK.out _ _ ⟨bk BK218 0, bk BK218 1⟩ (fun hHeld => ?_)
               clear hK K
               refine no 117 ?_
               refine on 6 (some 122) (lm 11 127) HT_ (fun K hK => ?_)
               refine goes_ Try.func38 (by kernel_rfl) rfl #[.bool t219, .agg #[.int .u64 t215, .int .u64 t216], .int .i64 (wrap64 (t201 - 64)), .bool t211] (by rfl) rfl rfl ga ?_
               with_reducible refine (round_Round.calls kj25 t219 t215 t216 (wrap64 (t201 - 64)) t211 t220 t221 _ A38.out).mono ?_
               rintro e w55 ⟨rfl, hb⟩
               refine ⟨_, rfl, ?_⟩
               refine ax4 (bb BK206 hb) (bb BK212 hb) (bb BK218 hb) (below_step bes hb) ?_
               clear BK206 BK212 BK218 HB
               intro BK206 BK212 BK218 HB
               (try clear hb)
               (try clear hb2)
               (try clear hk)
               (try clear hi)
               refine hK.out _ _ ⟨bk BK218 0, bk BK218 1⟩ (fun hHeld => ?_)
               clear hK K
               refine no 122 ?_
               refine pu 7 123 (lm 11 255) HT_ ?_
               refine pu 8 124 (lm 11 511) HT_ ?_
               refine pu 9 4 (lm 11 1023) HT_ ?_
               refine pu 10 5 (lm 11 2047) HT_ ?_
               refine done_ (done_of HT_.out (by kernel_rfl)) ?_
               try go_wp2
               go_ret2
               exact ⟨er, bes⟩
              ·
               rw [if_neg c35] at H
               have c35b0 : (t213 == t214) = false := by simpa using c35
               (try (have c35b1 : decide (t213 = t214) = false := by simpa using c35))
               (try (have c35b2 : (t213 == t214) = false := by simpa using c35))
               (try (have c35b3 : ¬ (t213 = t214) := by simpa using c35))
               clear c35
               have HC56 := Aside0.mk H
               clear H
               go_upto_if 125 with (first | ((with_reducible refine gate_callee (f := 37) rfl ?_); refine goesL_ (some 84) rfl rfl Try.func37 (by kernel_rfl) rfl #[.int .u64 x0_25] rfl ga ?_; (with_reducible refine (word_Parts.calls kj25 x0_25 t200 t201 _ A28.out).mono ?_); rintro e w' ⟨rfl, ⟨nd, rfl⟩⟩; refine ⟨_, rfl, ?_⟩; (try (rw [drewN_self wc]; generalize hq_ : World.drewN wc _ = wc; have n0_ : Aside0 (Below w.heap.size w wc) := ⟨by rw [← hq_]; exact bel⟩; clear HB hq_; have HB := n0_; clear n0_))) | ((with_reducible refine gate_callee (f := 37) rfl ?_); refine goesL_ (some 89) rfl rfl Try.func37 (by kernel_rfl) rfl #[.int .u64 x1_25] rfl ga ?_; (with_reducible refine (word_Parts.calls kj25 x1_25 t202 t203 _ A29.out).mono ?_); rintro e w' ⟨rfl, ⟨nd, rfl⟩⟩; refine ⟨_, rfl, ?_⟩; (try (rw [drewN_self wc]; generalize hq_ : World.drewN wc _ = wc; have n0_ : Aside0 (Below w.heap.size w wc) := ⟨by rw [← hq_]; exact bel⟩; clear HB hq_; have HB := n0_; clear n0_))) | ((with_reducible refine gate_callee (f := 40) rfl ?_); refine goesL_ (some 94) rfl rfl Try.func40 (by kernel_rfl) rfl #[.agg #[.int .u64 0, .int .u64 t200], .int .i64 64] rfl ga ?_; (with_reducible refine (wide_Wide_Left.calls 0 t200 64 t204 t205 _ A30.out).mono ?_); rintro e w57 ⟨rfl, hb⟩; refine ⟨_, rfl, ?_⟩; refine ax1 (below_step bel hb) ?_; clear HB; intro HB; (try clear hb)) | ((with_reducible refine gate_dst (N := 15) rfl ?_); refine gbox (N := 15) (cs := #[.int .u64 0, .int .u64 0]) (t := 68) ?_; intro gb206 hg w58 hbox hb; refine ax4 (below_step bel hb) hbox ((ge hg : w.heap.size ≤ gb206)) ((ge hg : w.heap.size ≤ gb206)) ?_; clear HB; intro HB BK206 GW206 GE206; clear hb hbox hg; have hcz59_0 := bc BK206 0 rfl; have hcz59_1 := bc BK206 1 rfl; have hfz59_0 := blk_frozen BK206.out 0; have hfz59_1 := blk_frozen BK206.out 1) | ((with_reducible refine gate_callee (f := 40) rfl ?_); refine goesL_ (some 98) rfl rfl Try.func40 (by kernel_rfl) rfl #[.agg #[.int .u64 0, .int .u64 t202], .int .i64 64] rfl ga ?_; (with_reducible refine (wide_Wide_Left.calls 0 t202 64 t207 t208 _ A31.out).mono ?_); rintro e w60 ⟨rfl, hb⟩; refine ⟨_, rfl, ?_⟩; refine ax2 (blk_below (g := gb206) (o := .cells #[.int .u64 t204, .int .u64 t205] 68 (0, 0)) (bp BK206) hb) (below_step bes hb) ?_; clear BK206; clear HB; intro BK206 HB; (try clear hb)) | ((with_reducible refine gate_callee (f := 41) rfl ?_); refine goesL_ (some 102) rfl rfl Try.func41 (by kernel_rfl) rfl #[.agg #[.int .u64 t207, .int .u64 t208], .int .i64 (wrap64 (t201 - t203))] rfl ga ?_; (with_reducible refine (wide_Wide_Right.calls kj25 t207 t208 (wrap64 (t201 - t203)) t209 t210 t211 _ A32.out).mono ?_); rintro e w61 ⟨rfl, hb⟩; refine ⟨_, rfl, ?_⟩; refine ax2 (bb BK206 hb) (below_step bes hb) ?_; clear BK206; clear HB; intro BK206 HB; (try clear hb)) | ((with_reducible refine gate_dst (N := 16) rfl ?_); refine gbox (N := 16) (cs := #[.int .u64 0, .int .u64 0]) (t := 68) ?_; intro gb212 hg w62 hbox hb; refine ax7 (bb BK206 hb) (below_step bes hb) hbox ((ge hg : w.heap.size ≤ gb212)) ((ge hg : w.heap.size ≤ gb212)) (nl hg BK206) (ng hg BK206) ?_; clear BK206; clear HB; intro BK206 HB BK212 GW212 GE212 NB206_212 NB212_206; clear hb hbox hg; have hnb63 := NB212_206.out; have hnc63 := NB206_212.out; have hcz64_0 := bc BK212 0 rfl; have hcz64_1 := bc BK212 1 rfl; have hfz64_0 := blk_frozen BK212.out 0; have hfz64_1 := blk_frozen BK212.out 1) | ((with_reducible refine gate_callee (f := 34) rfl ?_); refine goesL_ (some 106) rfl rfl Try.func34 (by kernel_rfl) rfl #[.int .u64 x0_25] rfl ga ?_; (with_reducible refine (word_Neg.calls x0_25 t213 _ A33.out).mono ?_); rintro e w' ⟨rfl, ⟨nd, rfl⟩⟩; refine ⟨_, rfl, ?_⟩) | ((with_reducible refine gate_callee (f := 34) rfl ?_); refine goesL_ (some 108) rfl rfl Try.func34 (by kernel_rfl) rfl #[.int .u64 x1_25] rfl ga ?_; (with_reducible refine (word_Neg.calls x1_25 t214 _ A34.out).mono ?_); rintro e w' ⟨rfl, ⟨nd, rfl⟩⟩; refine ⟨_, rfl, ?_⟩))
               (try simp only [Act.put, sa0, sa1, sa2])
               go_cut [] (fun wc => ∃ (kq : Nat) (x213000_55 : Int) (x213001_55 : Int), Aside0 (soft_Add.j3 kq x0_25 t201 t211 t204 t205 x213000_55 x213001_55 = some (r1, r2)) ∧ Aside0 (kq ≤ kj25) ∧ Aside0 (wc.heap[gb206]? = some (.cells #[.int .u64 t204, .int .u64 t205] 68 (0, 0))) ∧ Aside0 (wc.heap[gb212]? = some (.cells #[.int .u64 x213000_55, .int .u64 x213001_55] 68 (0, 0))) ∧ Aside0 (Below w.heap.size w wc))
               case first =>
                have H := HC56.out
                clear HC56
                by_cases c65 : t211 = true
                rotate_left
                ·
                 replace c65 := Bool.eq_false_iff.mpr c65
                 subst c65
                 rw [if_neg (show ¬ (false = true) by decide)] at H
                 have H' := Aside0.mk H
                 clear H
                 go_wp2
                 go_meet
                 case rel => exact ⟨_, (t209), (t210), H', ⟨by have := HJ9.out; have := HJ18.out; have := HJ25.out; first | omega | exact Nat.le_refl _⟩, ⟨bf BK206 NB206_212⟩, ⟨bp BK212⟩, ⟨bes⟩⟩
                subst c65
                rw [if_pos rfl] at H
                obtain ⟨⟨t222, t223, t224⟩, A660, H⟩ := Option.bind_eq_some_iff.mp H
                (try dsimp -simprocs only at H)
                have A66 := Aside0.mk A660
                clear A660
                have H' := Aside0.mk H
                clear H
                have hnb67 := NB212_206.out
                have hnc67 := NB206_212.out
                have hcz68_0 := bc BK212 0 rfl
                have hcz68_1 := bc BK212 1 rfl
                have hfz68_0 := blk_frozen BK212.out 0
                have hfz68_1 := blk_frozen BK212.out 1
                go_wp2_with (first | ((with_reducible refine gate_callee (f := 42) rfl ?_); refine goesL_ (some 129) rfl rfl Try.func42 (by kernel_rfl) rfl #[.agg #[.int .u64 t209, .int .u64 t210], .agg #[.int .u64 0, .int .u64 1]] rfl ga ?_; (with_reducible refine (wide_Wide_Add.calls t209 t210 0 1 t222 t223 t224 _ A66.out).mono ?_); rintro e w69 ⟨rfl, hb⟩; refine ⟨_, rfl, ?_⟩; refine ax3 (blk_below (g := gb206) (o := .cells #[.int .u64 t204, .int .u64 t205] 68 (0, 0)) (bf BK206 NB206_212) hb) (blk_below (g := gb212) (o := .cells #[.int .u64 t209, .int .u64 t210] 68 (0, 0)) (bp BK212) hb) (below_step bes hb) ?_; clear BK206; clear BK212; clear HB; intro BK206 BK212 HB; (try clear hb); have hcz70_0 := bc BK212 0 rfl; have hcz70_1 := bc BK212 1 rfl; have hfz70_0 := blk_frozen BK212.out 0; have hfz70_1 := blk_frozen BK212.out 1))
                go_meet
                case rel => exact ⟨_, (t222), (t223), H', ⟨by have := HJ9.out; have := HJ18.out; have := HJ25.out; first | omega | exact Nat.le_refl _⟩, ⟨bf BK206 NB206_212⟩, ⟨bp BK212⟩, ⟨bes⟩⟩
               case rest =>
                clear HC56
                try clear c1
                try clear c2
                try clear p2
                try clear c3
                try clear c4
                try clear c5
                try clear c6
                try clear p6
                try clear c12
                try clear c14
                try clear c14b0
                try clear c14b1
                try clear c15
                try clear c15b0
                try clear c15b1
                try clear c16
                try clear c17
                try clear c17b0
                try clear c17b1
                try clear c18
                try clear c18b0
                try clear c18b1
                try clear c20
                try clear c20b0
                try clear c20b1
                try clear c21
                try clear c22
                try clear c22b0
                try clear c22b1
                try clear c23
                try clear c23b0
                try clear c23b1
                try clear c27
                try clear c27b0
                try clear c30
                try clear c33
                try clear c34
                try clear c35
                try clear c35b0
                try clear c35b1
                try clear c35b2
                try clear c37
                try clear c38
                try clear c40
                try clear c41
                try clear c42
                try clear c45
                try clear c50
                try clear c51
                try clear c63
                try clear p64
                try clear c65
                try clear c67
                try clear hcz41_0
                try clear hcz41_1
                try clear hcz46_0
                try clear hcz46_1
                try clear hcz47_0
                try clear hcz47_1
                try clear hcz52_0
                try clear hcz52_1
                try clear hcz59_0
                try clear hcz59_1
                try clear hcz64_0
                try clear hcz64_1
                try clear hcz68_0
                try clear hcz68_1
                try clear hcz70_0
                try clear hcz70_1
                try clear hfz41_0
                try clear hfz41_1
                try clear hfz46_0
                try clear hfz46_1
                try clear hfz47_0
                try clear hfz47_1
                try clear hfz52_0
                try clear hfz52_1
                try clear hfz59_0
                try clear hfz59_1
                try clear hfz64_0
                try clear hfz64_1
                try clear hfz68_0
                try clear hfz68_1
                try clear hfz70_0
                try clear hfz70_1
                try clear p2
                obtain ⟨kq, x213000_55, x213001_55, HA, HJ55, BK206, BK212, HB⟩ := hcut
                cases kq with
                | zero => exact absurd HA.out (by simp [soft_Add.j3])
                | succ kj55 =>
                 have H := HA.out
                 clear HA
                 simp only [soft_Add.j3] at H
                 obtain ⟨⟨t225, t226, t227⟩, A710, H⟩ := Option.bind_eq_some_iff.mp H
                 (try dsimp -simprocs only at H)
                 have A71 := Aside0.mk A710
                 clear A710
                 have HC72 := Aside0.mk H
                 clear H
                 have hnb73 := NB206_212.out
                 have hnc73 := NB212_206.out
                 have hcz74_0 := bc BK206 0 rfl
                 have hcz74_1 := bc BK206 1 rfl
                 have hfz74_0 := blk_frozen BK206.out 0
                 have hfz74_1 := blk_frozen BK206.out 1
                 have hcz75_0 := bc BK212 0 rfl
                 have hcz75_1 := bc BK212 1 rfl
                 have hfz75_0 := blk_frozen BK212.out 0
                 have hfz75_1 := blk_frozen BK212.out 1
                 go_upto_region 29 with (first | ((with_reducible refine gate_callee (f := 43) rfl ?_); refine goesL_ (some 135) rfl rfl Try.func43 (by kernel_rfl) rfl #[.agg #[.int .u64 t204, .int .u64 t205], .agg #[.int .u64 x213000_55, .int .u64 x213001_55]] rfl ga ?_; (with_reducible refine (wide_Wide_Sub.calls t204 t205 x213000_55 x213001_55 t225 t226 t227 _ A71.out).mono ?_); rintro e w76 ⟨rfl, hb⟩; refine ⟨_, rfl, ?_⟩; refine ax3 (bb BK206 hb) (bb BK212 hb) (below_step bes hb) ?_; clear BK206; clear BK212; clear HB; intro BK206 BK212 HB; (try clear hb)) | ((with_reducible refine gate_dst (N := 20) rfl ?_); refine gbox (N := 20) (cs := #[.int .u64 0, .int .u64 0]) (t := 68) ?_; intro gb228 hg w77 hbox hb; refine ax10 (bb BK206 hb) (bb BK212 hb) (below_step bes hb) hbox ((ge hg : w.heap.size ≤ gb228)) ((ge hg : w.heap.size ≤ gb228)) (nl hg BK206) (ng hg BK206) (nl hg BK212) (ng hg BK212) ?_; clear BK206; clear BK212; clear HB; intro BK206 BK212 HB BK228 GW228 GE228 NB206_228 NB228_206 NB212_228 NB228_212; clear hb hbox hg; have hnb78 := NB228_206.out; have hnc78 := NB206_228.out; have hnb79 := NB228_212.out; have hnc79 := NB212_228.out; have hcz80_0 := bc BK228 0 rfl; have hcz80_1 := bc BK228 1 rfl; have hfz80_0 := blk_frozen BK228.out 0; have hfz80_1 := blk_frozen BK228.out 1))
                 (try simp only [Act.put, sa0, sa1, sa2])
                 go_cut [143] (fun v143 wc => ∃ (kq : Nat) (x143_71 : Bool), v143 = .bool x143_71 ∧ Aside0 (soft_Add.j4 kq x0_25 t201 t211 x143_71 t225 t226 = some (r1, r2)) ∧ Aside0 (kq ≤ kj55) ∧ Aside0 (wc.heap[gb206]? = some (.cells #[.int .u64 t204, .int .u64 t205] 68 (0, 0))) ∧ Aside0 (wc.heap[gb212]? = some (.cells #[.int .u64 x213000_55, .int .u64 x213001_55] 68 (0, 0))) ∧ Aside0 (wc.heap[gb228]? = some (.cells #[.int .u64 t225, .int .u64 t226] 68 (0, 0))) ∧ Aside0 (Below w.heap.size w wc))
                 case first =>
                  have H := HC72.out
                  clear HC72
                  obtain ⟨t229, A810, H⟩ := Option.bind_eq_some_iff.mp H
                  (try dsimp -simprocs only at H)
                  have A81 := Aside0.mk A810
                  clear A810
                  by_cases c82 : t229 = true
                  ·
                   subst c82
                   rw [if_pos rfl] at H
                   have H' := Aside0.mk H
                   clear H
                   have hnb83 := NB228_206.out
                   have hnc83 := NB206_228.out
                   have hnb84 := NB228_212.out
                   have hnc84 := NB212_228.out
                   have hcz85_0 := bc BK228 0 rfl
                   have hcz85_1 := bc BK228 1 rfl
                   have hfz85_0 := blk_frozen BK228.out 0
                   have hfz85_1 := blk_frozen BK228.out 1
                   go_wp2_with (first | ((with_reducible refine gate_callee (f := 44) rfl ?_); refine goesL_ (some 139) rfl rfl Try.func44 (by kernel_rfl) rfl #[.agg #[.int .u64 t225, .int .u64 t226]] rfl ga ?_; (with_reducible refine (wide_Wide_Zero.calls t225 t226 true _ A81.out).mono ?_); rintro e w86 ⟨rfl, hb⟩; refine ⟨_, rfl, ?_⟩; refine ax4 (blk_below (g := gb206) (o := .cells #[.int .u64 t204, .int .u64 t205] 68 (0, 0)) (bf BK206 NB206_228) hb) (blk_below (g := gb212) (o := .cells #[.int .u64 x213000_55, .int .u64 x213001_55] 68 (0, 0)) (bf BK212 NB212_228) hb) (blk_below (g := gb228) (o := .cells #[.int .u64 t225, .int .u64 t226] 68 (0, 0)) (bp BK228) hb) (below_step bes hb) ?_; clear BK206; clear BK212; clear BK228; clear HB; intro BK206 BK212 BK228 HB; (try clear hb)))
                   go_meet
                   case rel => exact ⟨_, (!t211), (by first | rfl | (simp; done) | (simp [*]; done)), H', ⟨by have := HJ9.out; have := HJ18.out; have := HJ25.out; have := HJ55.out; first | omega | exact Nat.le_refl _⟩, ⟨kb BK206⟩, ⟨kb BK212⟩, ⟨kb BK228⟩, ⟨bes⟩⟩
                  ·
                   replace c82 := Bool.eq_false_iff.mpr c82
                   subst c82
                   rw [if_neg (show ¬ (false = true) by decide)] at H
                   have H' := Aside0.mk H
                   clear H
                   have hnb87 := NB228_206.out
                   have hnc87 := NB206_228.out
                   have hnb88 := NB228_212.out
                   have hnc88 := NB212_228.out
                   have hcz89_0 := bc BK228 0 rfl
                   have hcz89_1 := bc BK228 1 rfl
                   have hfz89_0 := blk_frozen BK228.out 0
                   have hfz89_1 := blk_frozen BK228.out 1
                   go_wp2_with (first | ((with_reducible refine gate_callee (f := 44) rfl ?_); refine goesL_ (some 139) rfl rfl Try.func44 (by kernel_rfl) rfl #[.agg #[.int .u64 t225, .int .u64 t226]] rfl ga ?_; (with_reducible refine (wide_Wide_Zero.calls t225 t226 false _ A81.out).mono ?_); rintro e w90 ⟨rfl, hb⟩; refine ⟨_, rfl, ?_⟩; refine ax4 (blk_below (g := gb206) (o := .cells #[.int .u64 t204, .int .u64 t205] 68 (0, 0)) (bf BK206 NB206_228) hb) (blk_below (g := gb212) (o := .cells #[.int .u64 x213000_55, .int .u64 x213001_55] 68 (0, 0)) (bf BK212 NB212_228) hb) (blk_below (g := gb228) (o := .cells #[.int .u64 t225, .int .u64 t226] 68 (0, 0)) (bp BK228) hb) (below_step bes hb) ?_; clear BK206; clear BK212; clear BK228; clear HB; intro BK206 BK212 BK228 HB; (try clear hb)))
                   go_meet
                   case rel => exact ⟨_, (false), (by first | rfl | (simp; done) | (simp [*]; done)), H', ⟨by have := HJ9.out; have := HJ18.out; have := HJ25.out; have := HJ55.out; first | omega | exact Nat.le_refl _⟩, ⟨kb BK206⟩, ⟨kb BK212⟩, ⟨kb BK228⟩, ⟨bes⟩⟩
                 case rest =>
                  clear HC72
                  try clear c1
                  try clear c2
                  try clear p2
                  try clear c3
                  try clear c4
                  try clear c5
                  try clear c6
                  try clear p6
                  try clear c7
                  try clear c8
                  try clear c12
                  try clear c14
                  try clear c14b0
                  try clear c14b1
                  try clear c15
                  try clear c15b0
                  try clear c15b1
                  try clear c16
                  try clear c17
                  try clear c17b0
                  try clear c17b1
                  try clear c18
                  try clear c18b0
                  try clear c18b1
                  try clear c20
                  try clear c20b0
                  try clear c20b1
                  try clear c21
                  try clear c22
                  try clear c22b0
                  try clear c22b1
                  try clear c23
                  try clear c23b0
                  try clear c23b1
                  try clear c27
                  try clear c27b0
                  try clear c30
                  try clear c33
                  try clear c34
                  try clear c35
                  try clear c35b0
                  try clear c35b1
                  try clear c35b2
                  try clear c37
                  try clear c38
                  try clear c40
                  try clear c41
                  try clear c42
                  try clear c43
                  try clear c44
                  try clear c45
                  try clear c50
                  try clear c51
                  try clear c63
                  try clear p64
                  try clear c65
                  try clear c67
                  try clear c73
                  try clear c78
                  try clear c79
                  try clear c82
                  try clear c83
                  try clear c84
                  try clear c87
                  try clear c88
                  try clear hcz41_0
                  try clear hcz41_1
                  try clear hcz46_0
                  try clear hcz46_1
                  try clear hcz47_0
                  try clear hcz47_1
                  try clear hcz52_0
                  try clear hcz52_1
                  try clear hcz59_0
                  try clear hcz59_1
                  try clear hcz64_0
                  try clear hcz64_1
                  try clear hcz68_0
                  try clear hcz68_1
                  try clear hcz70_0
                  try clear hcz70_1
                  try clear hcz74_0
                  try clear hcz74_1
                  try clear hcz75_0
                  try clear hcz75_1
                  try clear hcz80_0
                  try clear hcz80_1
                  try clear hcz85_0
                  try clear hcz85_1
                  try clear hcz89_0
                  try clear hcz89_1
                  try clear hfz41_0
                  try clear hfz41_1
                  try clear hfz46_0
                  try clear hfz46_1
                  try clear hfz47_0
                  try clear hfz47_1
                  try clear hfz52_0
                  try clear hfz52_1
                  try clear hfz59_0
                  try clear hfz59_1
                  try clear hfz64_0
                  try clear hfz64_1
                  try clear hfz68_0
                  try clear hfz68_1
                  try clear hfz70_0
                  try clear hfz70_1
                  try clear hfz74_0
                  try clear hfz74_1
                  try clear hfz75_0
                  try clear hfz75_1
                  try clear hfz80_0
                  try clear hfz80_1
                  try clear hfz85_0
                  try clear hfz85_1
                  try clear hfz89_0
                  try clear hfz89_1
                  try clear p2
                  try clear p6
                  try clear p64
                  obtain ⟨kq, x143_71, rfl, HA, HJ71, BK206, BK212, BK228, HB⟩ := hcut
                  cases kq with
                  | zero => exact absurd HA.out (by simp [soft_Add.j4])
                  | succ kj71 =>
                   have H := HA.out
                   clear HA
                   simp only [soft_Add.j4] at H
                   by_cases c91 : x143_71 = true
                   ·
                    subst c91
                    rw [if_pos rfl] at H
                    simp only [Option.some.injEq, Prod.mk.injEq] at H
                    obtain ⟨rfl, rfl⟩ := H
                    go_wp2
                    go_ret2
                    exact ⟨er, bes⟩
                   ·
                    replace c91 := Bool.eq_false_iff.mpr c91
                    subst c91
                    rw [if_neg (show ¬ (false = true) by decide)] at H
                    obtain ⟨t230, A920, H⟩ := Option.bind_eq_some_iff.mp H
                    (try dsimp -simprocs only at H)
                    have A92 := Aside0.mk A920
                    clear A920
                    obtain ⟨⟨t231, t232⟩, A930, H⟩ := Option.bind_eq_some_iff.mp H
                    (try dsimp -simprocs only at H)
                    have A93 := Aside0.mk A930
                    clear A930
                    simp only [Option.some.injEq, Prod.mk.injEq] at H
                    obtain ⟨rfl, rfl⟩ := H
                    try go_wp2
                    refine ax4 (blk_drew BK206.out) (blk_drew BK212.out) (blk_drew BK228.out) (below_drew1 HB.out) ?_
                    clear BK206 BK212 BK228 HB
                    intro BK206 BK212 BK228 HB
                    refine start_ (n := 11) (S := fun w' => w'.cell? ⟨gb228, 0, none⟩ = some (.int .u64 t225) ∧ w'.cell? ⟨gb228, 1, none⟩ = some (.int .u64 t226)) (ds := []) #[false, false, false, false, false, false, false, false, false, false, false] (by kernel_rfl) rfl rfl ⟨bk BK228 0, bk BK228 1⟩ (fun hHeld => ?_); refine with_tabW soft_Add.tab31 soft_Add.bits31 (fun HT_ HW_ => ?_)
                    generalize wc.drew = w94 at BK206 BK212 BK228 HB hHeld ⊢
                    refine pu 0 144 (lm 11 1) HT_ ?_
                    refine pu 3 147 (lm 11 9) HT_ ?_
                    refine pu 4 148 (lm 11 25) HT_ ?_
                    refine pu 5 149 (lm 11 57) HT_ ?_
                    refine ta 2 146 (lm 11 61) HT_ HW_ hHeld ?_
                    refine on 1 (some 145) (lm 11 63) HT_ (fun K hK => ?_)
                    refine goes_ Try.func34 (by kernel_rfl) rfl #[.int .u64 x0_25] (by rfl) rfl rfl ga ?_
                    with_reducible refine (word_Neg.calls x0_25 t230 _ A92.out).mono ?_
                    rintro e w' ⟨rfl, ⟨nd, rfl⟩⟩
                    refine ⟨_, rfl, ?_⟩
                    refine hK.out _ _ ⟨bk BK228 0, bk BK228 1⟩ (fun hHeld => ?_)
                    clear hK K
                    refine no 145 ?_
                    refine on 6 (some 150) (lm 11 127) HT_ (fun K hK => ?_)
                    refine goes_ Try.func38 (by kernel_rfl) rfl #[.bool t230, .agg #[.int .u64 t225, .int .u64 t226], .int .i64 (wrap64 (t201 - 64)), .bool t211] (by rfl) rfl rfl ga ?_
                    with_reducible refine (round_Round.calls kj71 t230 t225 t226 (wrap64 (t201 - 64)) t211 t231 t232 _ A93.out).mono ?_
                    rintro e w95 ⟨rfl, hb⟩
                    refine ⟨_, rfl, ?_⟩
                    refine ax4 (bb BK206 hb) (bb BK212 hb) (bb BK228 hb) (below_step bes hb) ?_
                    clear BK206 BK212 BK228 HB
                    intro BK206 BK212 BK228 HB
                    (try clear hb)
                    (try clear hb2)
                    (try clear hk)
                    (try clear hi)
                    refine hK.out _ _ ⟨bk BK228 0, bk BK228 1⟩ (fun hHeld => ?_)
                    clear hK K
                    refine no 150 ?_
                    refine pu 7 151 (lm 11 255) HT_ ?_
                    refine pu 8 152 (lm 11 511) HT_ ?_
                    refine pu 9 4 (lm 11 1023) HT_ ?_
                    refine pu 10 5 (lm 11 2047) HT_ ?_
                    refine done_ (done_of HT_.out (by kernel_rfl)) ?_
                    try go_wp2
                    go_ret2
                    exact ⟨er, bes⟩

/-! ### soft_Calc_Add_nil: function 19 -/
def soft_Calc_Add_nil.f (k : Nat)  (a1 : Int) (a2 : Int) : Option (Int) := (soft_Add.f k a1 a2).bind fun bt237 => ((soft_Calc_note_nil.f bt237.1 bt237.2).bind fun t239 => (some t239))
theorem soft_Calc_Add_nil.mono : ∀ a0 a1 k, LeO (soft_Calc_Add_nil.f k a0 a1) (soft_Calc_Add_nil.f (k + 1) a0 a1) := by
 intro a0 a1 k
 unfold soft_Calc_Add_nil.f
 repeat' with_reducible first | apply soft_Add.mono | exact LeO.refl _ | exact LeO.none _ | refine LeO.ite ?_ ?_ | refine LeO.bind ?_ (fun _ => ?_)
set_option maxHeartbeats 8000000 in
set_option maxRecDepth 100000 in
theorem soft_Calc_Add_nil.calls (k : Nat)  (a1 : Int) (a2 : Int) (r : Int) (w : World) (h : soft_Calc_Add_nil.f k a1 a2 = some r) :
  Calls Try.prog 19 #[.pointer none, .int .u64 a1, .int .u64 a2] w fun e w' => e = .returned (.int .u64 r) ∧ Below w.heap.size w w' := by
 have HB := Aside0.mk (Below.refl w.heap.size w)
 have H : ((soft_Add.f k a1 a2).bind fun bt237 => ((soft_Calc_note_nil.f bt237.1 bt237.2).bind fun t239 => (some t239))) = some r := h
 clear h
 obtain ⟨⟨t237, t238⟩, A40, H⟩ := Option.bind_eq_some_iff.mp H
 (try dsimp -simprocs only at H)
 have A4 := Aside0.mk A40
 clear A40
 obtain ⟨t239, A50, H⟩ := Option.bind_eq_some_iff.mp H
 (try dsimp -simprocs only at H)
 have A5 := Aside0.mk A50
 clear A50
 obtain rfl := Option.some.inj H
 go_enter Try.func19, Try.ntmps19
 go_wp2_with (first | ((with_reducible refine gate_callee (f := 30) rfl ?_); refine goesL_ (some 10) rfl rfl Try.func30 (by kernel_rfl) rfl #[.int .u64 a1, .int .u64 a2] rfl ga ?_; (with_reducible refine (soft_Add.calls k a1 a2 t237 t238 _ A4.out).mono ?_); rintro e w6 ⟨rfl, hb⟩; refine ⟨_, rfl, ?_⟩; refine ax1 (below_step bel hb) ?_; clear HB; intro HB; (try clear hb)) | ((with_reducible refine gate_callee (f := 28) rfl ?_); refine goesL_ (some 13) rfl rfl Try.func28 (by kernel_rfl) rfl #[.pointer none, .int .u64 t237, .int .u8 t238] rfl ga ?_; (with_reducible refine (soft_Calc_note_nil.calls  t237 t238 t239 _ A5.out).mono ?_); rintro e w' ⟨rfl, ⟨nd, rfl⟩⟩; refine ⟨_, rfl, ?_⟩))
 go_ret
 exact ⟨er, bel⟩

end Go.Proofs.Ytfogmgcpajndcaa.F
