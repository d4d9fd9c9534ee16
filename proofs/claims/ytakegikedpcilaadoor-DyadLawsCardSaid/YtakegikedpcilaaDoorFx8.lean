-- Written by a program of this seat's session (mkprint), out of the translation.
import Derived.Test.YtakegikedpcilaaDoorShort
import Derived.Test.YtakegikedpcilaaDoorFx0
import Derived.Test.YtakegikedpcilaaDoorFx2
import Derived.Test.YtakegikedpcilaaDoorFx4
import Derived.Test.YtakegikedpcilaaDoorFx5
import Derived.Test.YtakegikedpcilaaDoorFx7
namespace Go.Proofs.YtakegikedpcilaaDoor.F
open Go.RowKit Go.Proofs.YtakegikedpcilaaDoorW.PrintWords Go.Proofs.YtakegikedpcilaaDoorW.PrintLast Go.Proofs.YtakegikedpcilaaDoorW.PrintMore
attribute [local go_sem] max2_int min2_int max_two min_two max_three min_three max_four min_four   -- for this text's walks alone
set_option linter.unusedVariables false
set_option linter.unusedSimpArgs false

/-! ### dyad_Num_Near: function 12 -/
def dyad_Num_Near.l0 : Nat → Int → Int → Bool → List Int → Int → Int → Bool → List Int → Int → Int → Int → Option (Int × Int)
 | 0, _, _, _, _, _, _, _, _, _, _, _ => none
 | k + 1, x4, x6, x7, x16, x17, x18, x265000, x265001, x265002, x266000, x266001 => if x18 < x17 then (if 0 ≤ x18 then (if x18 < (x16.length : Int) then (if x18 < (wrap64 (x4 - 3)) then (dyad_Num_Near.l0 k x4 (wrap64 (x6 + 32)) true x16 x17 (wrap64 (x18 + 1)) x265000 x265001 x265002 x266000 x266001) else ((wide_Wide_Left.f 0 (IntKind.u64.wrap (rd x16 x18)) (wrap64 (32 * (wrap64 (x18 - (mx 0 (wrap64 (x4 - 3)))))))).bind fun bt269 => ((wide_Wide_Add.f x266000 x266001 bt269.1 bt269.2).bind fun bt271 => (dyad_Num_Near.l0 k x4 x6 x7 x16 x17 (wrap64 (x18 + 1)) x265000 x265001 x265002 bt271.1 bt271.2.1)))) else (none)) else (none)) else ((round_Round.f k x265000 x266000 x266001 x6 x7).bind fun bt266 => (some (bt266.1, bt266.2)))
def dyad_Num_Near.f (k : Nat) (a0_0 : Bool) (l0_1 : List Int) (a0_2 : Int) : Option (Int × Int) := dyad_Num_Near.l0 k (l0_1.length : Int) a0_2 false l0_1 (l0_1.length : Int) 0 a0_0 l0_1 a0_2 0 0
theorem dyad_Num_Near.mono_l : ∀ k, (∀ y0 y1 y2 y3 y4 y5 y6 y7 y8 y9 y10, LeO (dyad_Num_Near.l0 k y0 y1 y2 y3 y4 y5 y6 y7 y8 y9 y10) (dyad_Num_Near.l0 (k + 1) y0 y1 y2 y3 y4 y5 y6 y7 y8 y9 y10))
 | 0 => fun _ _ _ _ _ _ _ _ _ _ _ r h => by simp [dyad_Num_Near.l0] at h
 | k + 1 => by
  have ih0 := dyad_Num_Near.mono_l k
  ·
   intro y0 y1 y2 y3 y4 y5 y6 y7 y8 y9 y10
   unfold dyad_Num_Near.l0
   repeat' with_reducible first | apply ih0 | apply round_Round.mono | exact LeO.refl _ | exact LeO.none _ | refine LeO.ite ?_ ?_ | refine LeO.bind ?_ (fun _ => ?_)
theorem dyad_Num_Near.mono : ∀ a0 a1 a2 k, LeO (dyad_Num_Near.f k a0 a1 a2) (dyad_Num_Near.f (k + 1) a0 a1 a2) := by
 intro a0 a1 a2 k
 have ih0 := dyad_Num_Near.mono_l k
 unfold dyad_Num_Near.f
 repeat' with_reducible first | apply ih0 | apply round_Round.mono | exact LeO.refl _ | exact LeO.none _ | refine LeO.ite ?_ ?_ | refine LeO.bind ?_ (fun _ => ?_)
def dyad_Num_Near.T10 : Bool × List (List Nat × List Nat) := (true, [([], []), ([], []), ([1], [1]), ([2], [2]), ([], []), ([], []), ([5], [5]), ([6], [6]), ([4, 7], [4, 7]), ([8], [8]), ([3, 9], [3, 9]), ([0, 10, 10], [0, 10]), ([11], [11]), ([12], [12]), ([12], [12]), ([13, 11, 0, 1, 2, 3, 4, 5, 6, 7, 8, 9, 10, 11, 12, 13], [13])])
def dyad_Num_Near.B10 : List Nat := [0, 0, 2, 6, 0, 0, 32, 96, 240, 496, 1022, 2047, 4095, 8191, 8191, 16383]
theorem dyad_Num_Near.tab10 : rtab .any (opsOf Tryd.f12 10) = dyad_Num_Near.T10 := by kernel_rfl
theorem dyad_Num_Near.bits10 : waitsOk dyad_Num_Near.T10.2 dyad_Num_Near.B10 = true := by kernel_rfl
set_option maxHeartbeats 8000000 in
set_option maxRecDepth 100000 in
theorem dyad_Num_Near.calls (k : Nat) (a0_0 : Bool) (A0_1 : Option Addr) (c0_1 : Nat) (l0_1 : List Int) (a0_2 : Int) (r1 : Int) (r2 : Int) (w : World) (hr0_1 : Kd.C (Kd.int .u32) w A0_1 l0_1.length l0_1) (hc0_1 : l0_1.length ≤ c0_1) (h : dyad_Num_Near.f k a0_0 l0_1 a0_2 = some (r1, r2)) :
  Calls Tryd.prog 12 #[.agg #[.bool a0_0, .slice A0_1 l0_1.length c0_1, .int .i64 a0_2]] w fun e w' => e = .returned (.tuple #[.int .u64 r1, .int .u8 r2]) ∧ Below w.heap.size w w' := by
 have hu26 := Tryd.underlying26
 have hu62 := Tryd.underlying62
 have HR0_1 := Aside0.mk hr0_1
 have HC0_1 := Aside0.mk hc0_1
 clear hr0_1 hc0_1
 have HB := Aside0.mk (Below.refl w.heap.size w)
 have H : (dyad_Num_Near.l0 k (l0_1.length : Int) a0_2 false l0_1 (l0_1.length : Int) 0 a0_0 l0_1 a0_2 0 0) = some (r1, r2) := h
 clear h
 have H' := Aside0.mk H
 clear H
 go_enter Tryd.func12, Tryd.ntmps12
 go_wp2_with (first | ((with_reducible refine gate_dst (N := 1) rfl ?_); refine gbox (N := 1) (cs := #[.bool a0_0, .slice A0_1 l0_1.length c0_1, .int .i64 a0_2]) (t := 26) ?_; intro gb264 hg w2 hbox hb; refine ax4 (below_step bel hb) hbox ((ge hg : w.heap.size ≤ gb264)) ((ge hg : w.heap.size ≤ gb264)) ?_; clear HB; intro HB BK264 GW264 GE264; clear hb hbox hg; have hcz3_0 := bc BK264 0 rfl; have hcz3_1 := bc BK264 1 rfl; have hcz3_2 := bc BK264 2 rfl; have hfz3_0 := blk_frozen BK264.out 0; have hfz3_1 := blk_frozen BK264.out 1; have hfz3_2 := blk_frozen BK264.out 2) | ((with_reducible refine gate_dst (N := 5) rfl ?_); refine gbox (N := 5) (cs := #[.int .u64 0, .int .u64 0]) (t := 62) ?_; intro gb265 hg w4 hbox hb; refine ax7 (bb BK264 hb) (below_step bes hb) hbox ((ge hg : w.heap.size ≤ gb265)) ((ge hg : w.heap.size ≤ gb265)) (nl hg BK264) (ng hg BK264) ?_; clear BK264; clear HB; intro BK264 HB BK265 GW265 GE265 NB264_265 NB265_264; clear hb hbox hg; have hnb5 := NB264_265.out; have hnc5 := NB265_264.out; have hcz6_0 := bc BK264 0 rfl; have hcz6_1 := bc BK264 1 rfl; have hcz6_2 := bc BK264 2 rfl; have hfz6_0 := blk_frozen BK264.out 0; have hfz6_1 := blk_frozen BK264.out 1; have hfz6_2 := blk_frozen BK264.out 2))
 go_loopg [6, 7, 18] k (fun kq v6 v7 v18 w' => ∃ (x6_1 : Int) (x7_1 : Bool) (x18_1 : Int) (x266000_1 : Int) (x266001_1 : Int), v6 = .int .i64 x6_1 ∧ v7 = .bool x7_1 ∧ v18 = .int .i64 x18_1 ∧ Aside0 (dyad_Num_Near.l0 kq (l0_1.length : Int) x6_1 x7_1 l0_1 (l0_1.length : Int) x18_1 a0_0 l0_1 a0_2 x266000_1 x266001_1 = some (r1, r2)) ∧ Aside0 (kq ≤ k) ∧ Aside0 (w'.heap[gb264]? = some (.cells #[.bool a0_0, (.slice A0_1 l0_1.length c0_1), .int .i64 a0_2] 26 (0, 0))) ∧ Aside0 (w'.heap[gb265]? = some (.cells #[.int .u64 x266000_1, .int .u64 x266001_1] 62 (0, 0))) ∧ Aside0 (Below w.heap.size w w'))
 case atStart => exact ⟨(a0_2), (false), (0), (0), (0), (by first | rfl | (simp; done) | (simp [*]; done)), (by first | rfl | (simp; done) | (simp [*]; done)), (by first | rfl | (simp; done) | (simp [*]; done)), H', ⟨Nat.le_refl _⟩, ⟨kb BK264⟩, ⟨kb BK265⟩, ⟨bes⟩⟩
 case round =>
  clear H'
  try clear c1
  try clear p2
  try clear c5
  try clear hcz3_0
  try clear hcz3_1
  try clear hcz3_2
  try clear hcz6_0
  try clear hcz6_1
  try clear hcz6_2
  try clear hfz3_0
  try clear hfz3_1
  try clear hfz3_2
  try clear hfz6_0
  try clear hfz6_1
  try clear hfz6_2
  obtain ⟨x6_1, x7_1, x18_1, x266000_1, x266001_1, rfl, rfl, rfl, HA, HK1, BK264, BK265, HB⟩ := hrel
  cases gk with
  | zero => exact absurd HA.out (by simp [dyad_Num_Near.l0])
  | succ k1 =>
   have H := HA.out
   clear HA
   simp only [dyad_Num_Near.l0] at H
   by_cases c7 : x18_1 < (l0_1.length : Int)
   ·
    rw [if_pos c7] at H
    have c7b0 : decide (x18_1 < (l0_1.length : Int)) = true := decide_eq_true c7
    clear c7
    by_cases c8 : 0 ≤ x18_1
    rotate_left
    ·
     rw [if_neg c8] at H
     exact absurd H (by simp)
    rw [if_pos c8] at H
    have c8b0 : decide (0 ≤ x18_1) = true := decide_eq_true c8
    clear c8
    by_cases c9 : x18_1 < (l0_1.length : Int)
    rotate_left
    ·
     rw [if_neg c9] at H
     exact absurd H (by simp)
    rw [if_pos c9] at H
    have c9b0 : decide (x18_1 < (l0_1.length : Int)) = true := decide_eq_true c9
    clear c9
    by_cases c10 : x18_1 < (wrap64 ((l0_1.length : Int) - 3))
    ·
     rw [if_pos c10] at H
     have c10b0 : decide (x18_1 < (wrap64 ((l0_1.length : Int) - 3))) = true := decide_eq_true c10
     clear c10
     have H' := Aside0.mk H
     clear H
     have p268 : 0 ≤ (x18_1 : Int) := of_decide_eq_true (by first | (with_reducible assumption) | assumption)
     have q268 : x18_1 < (l0_1.length : Int) := of_decide_eq_true (by first | (with_reducible assumption) | assumption)
     obtain ⟨ad268, e268, hx268_0⟩ := Kd.at_int HR0_1.out x18_1 p268 q268
     cases e268
     replace hx268_0 := (HB.out.cell (World.block_lt_of_cell? w _ hx268_0)).trans hx268_0
     replace p268 := eq_true p268
     replace q268 := eq_true q268
     go_wp2
     go_roundg k1
     case measure => have := HK1.out; omega
     case rel => exact ⟨(wrap64 (x6_1 + 32)), (true), (wrap64 (x18_1 + 1)), (x266000_1), (x266001_1), (by first | rfl | (simp; done) | (simp [*]; done)), (by first | rfl | (simp; done) | (simp [*]; done)), (by first | rfl | (simp; done) | (simp [*]; done)), H', ⟨by have := HK1.out; omega⟩, ⟨kb BK264⟩, ⟨kb BK265⟩, ⟨bes⟩⟩
    ·
     rw [if_neg c10] at H
     have c10b0 : decide (x18_1 < (wrap64 ((l0_1.length : Int) - 3))) = false := decide_eq_false c10
     clear c10
     obtain ⟨ji11, hji11⟩ : ∃ j_ : Int, (mx 0 (wrap64 ((l0_1.length : Int) - 3))) = j_ := ⟨_, rfl⟩
     replace H : ((wide_Wide_Left.f 0 (IntKind.u64.wrap (rd l0_1 x18_1)) (wrap64 (32 * (wrap64 (x18_1 - (ji11)))))).bind fun bt269 => ((wide_Wide_Add.f x266000_1 x266001_1 bt269.1 bt269.2).bind fun bt271 => (dyad_Num_Near.l0 k1 (l0_1.length : Int) x6_1 x7_1 l0_1 (l0_1.length : Int) (wrap64 (x18_1 + 1)) a0_0 l0_1 a0_2 bt271.1 bt271.2.1))) = some (r1, r2) := by first | (rw [hji11] at H; exact H) | (simp only [hji11] at H ⊢; exact H)
     have hji11_ : (if 0 < (wrap64 ((l0_1.length : Int) - 3)) then (wrap64 ((l0_1.length : Int) - 3)) else 0) = ji11 := hji11
     obtain ⟨⟨t269, t270⟩, A120, H⟩ := Option.bind_eq_some_iff.mp H
     (try dsimp -simprocs only at H)
     have A12 := Aside0.mk A120
     clear A120
     obtain ⟨⟨t271, t272, t273⟩, A130, H⟩ := Option.bind_eq_some_iff.mp H
     (try dsimp -simprocs only at H)
     have A13 := Aside0.mk A130
     clear A130
     have H' := Aside0.mk H
     clear H
     have p268 : 0 ≤ (x18_1 : Int) := of_decide_eq_true (by first | (with_reducible assumption) | assumption)
     have q268 : x18_1 < (l0_1.length : Int) := of_decide_eq_true (by first | (with_reducible assumption) | assumption)
     obtain ⟨ad268, e268, hx268_0⟩ := Kd.at_int HR0_1.out x18_1 p268 q268
     cases e268
     replace hx268_0 := (HB.out.cell (World.block_lt_of_cell? w _ hx268_0)).trans hx268_0
     replace p268 := eq_true p268
     replace q268 := eq_true q268
     try go_wp2
     refine ax3 (blk_drew BK264.out) (blk_drew BK265.out) (below_drew1 HB.out) ?_
     clear BK264 BK265 HB
     intro BK264 BK265 HB
     refine start_ (n := 16) (S := fun w' => w'.cell? ⟨gb265, 0, none⟩ = some (.int .u64 x266000_1) ∧ w'.cell? ⟨gb265, 1, none⟩ = some (.int .u64 x266001_1)) (ds := [15]) #[false, false, false, false, false, false, false, false, false, false, false, false, false, false, false, false] (by kernel_rfl) rfl rfl ⟨(blk_cell BK265.out 0).trans rfl, (blk_cell BK265.out 1).trans rfl⟩ (fun hHeld => ?_); refine with_tabW dyad_Num_Near.tab10 dyad_Num_Near.bits10 (fun HT_ HW_ => ?_)
     generalize wr.drew = w14 at BK264 BK265 HB hHeld ⊢
     refine pure_ (i := 1) (N := some 31) (v := ?_) (a' := ?_) #[false, true, false, false, false, false, false, false, false, false, false, false, false, false, false, false] rfl rfl (any_of HT_.out (by kernel_rfl)) (fun _ _ _ h => h) (Or.inl ⟨by rfl, ?_⟩) ?_ ?_
     rotate_left
     ·
      intro w'
      go_simp
      with_reducible rfl
     rotate_left
     ·
      simp only [Act.put, sa0, sa1, sa2, i64_w, i32_w]
      rfl
     refine pure_ (i := 2) (N := some 32) (v := ?_) (a' := ?_) #[false, true, true, false, false, false, false, false, false, false, false, false, false, false, false, false] rfl rfl (any_of HT_.out (by kernel_rfl)) (fun _ _ _ h => h) (Or.inl ⟨by rfl, ?_⟩) ?_ ?_
     rotate_left
     ·
      intro w'
      go_simp
      with_reducible rfl
     rotate_left
     ·
      simp only [Act.put, sa0, sa1, sa2, i64_w, i32_w]
      rfl
     refine pure_ (i := 3) (N := some 33) (v := ?_) (a' := ?_) #[false, true, true, true, false, false, false, false, false, false, false, false, false, false, false, false] rfl rfl (any_of HT_.out (by kernel_rfl)) (fun _ _ _ h => h) (Or.inl ⟨by rfl, ?_⟩) ?_ ?_
     rotate_left
     ·
      intro w'
      go_simp
      with_reducible rfl
     rotate_left
     ·
      simp only [Act.put, sa0, sa1, sa2, i64_w, i32_w]
      rfl
     refine pure_ (i := 4) (N := some 34) (v := ?_) (a' := ?_) #[false, true, true, true, true, false, false, false, false, false, false, false, false, false, false, false] rfl rfl (any_of HT_.out (by kernel_rfl)) (fun _ _ _ h => h) (Or.inl ⟨by rfl, ?_⟩) ?_ ?_
     rotate_left
     ·
      intro w'
      go_simp
      with_reducible rfl
     rotate_left
     ·
      simp only [Act.put, sa0, sa1, sa2, i64_w, i32_w]
      rfl
     refine pure_ (i := 5) (N := some 35) (v := ?_) (a' := ?_) #[false, true, true, true, true, true, false, false, false, false, false, false, false, false, false, false] rfl rfl (any_of HT_.out (by kernel_rfl)) (fun _ _ _ h => h) (Or.inl ⟨by rfl, ?_⟩) ?_ ?_
     rotate_left
     ·
      intro w'
      go_simp
      with_reducible rfl
     rotate_left
     ·
      simp only [Act.put, sa0, sa1, sa2, i64_w, i32_w]
      rfl
     refine pure_ (i := 6) (N := some 36) (v := ?_) (a' := ?_) #[false, true, true, true, true, true, true, false, false, false, false, false, false, false, false, false] rfl rfl (any_of HT_.out (by kernel_rfl)) (fun _ _ _ h => h) (Or.inl ⟨by rfl, ?_⟩) ?_ ?_
     rotate_left
     ·
      intro w'
      go_simp
      with_reducible rfl
     rotate_left
     ·
      simp only [Act.put, sa0, sa1, sa2, i64_w, i32_w]
      rfl
     refine pure_ (i := 7) (N := some 37) (v := ?_) (a' := ?_) #[false, true, true, true, true, true, true, true, false, false, false, false, false, false, false, false] rfl rfl (any_of HT_.out (by kernel_rfl)) (fun _ _ _ h => h) (Or.inl ⟨by rfl, ?_⟩) ?_ ?_
     rotate_left
     ·
      intro w'
      go_simp
      with_reducible rfl
     rotate_left
     ·
      simp only [Act.put, sa0, sa1, sa2, i64_w, i32_w]
      rfl
     refine pure_ (i := 8) (N := some 38) (v := ?_) (a' := ?_) #[false, true, true, true, true, true, true, true, true, false, false, false, false, false, false, false] rfl rfl (any_of HT_.out (by kernel_rfl)) (fun _ _ _ h => h) (Or.inl ⟨by rfl, ?_⟩) ?_ ?_
     rotate_left
     ·
      intro w'
      go_simp
      with_reducible rfl
     rotate_left
     ·
      simp only [Act.put, sa0, sa1, sa2, i64_w, i32_w]
      rfl
     refine pure_ (i := 9) (N := some 39) (v := ?_) (a' := ?_) #[false, true, true, true, true, true, true, true, true, true, false, false, false, false, false, false] rfl rfl (any_of HT_.out (by kernel_rfl)) (fun _ _ _ h => h) (Or.inl ⟨by rfl, ?_⟩) ?_ ?_
     rotate_left
     ·
      intro w'
      go_simp
      with_reducible rfl
     rotate_left
     ·
      simp only [Act.put, sa0, sa1, sa2, i64_w, i32_w]
      rfl
     refine take_ (i := 0) (N := some 30) (v := ?_) (a' := ?_) #[true, true, true, true, true, true, true, true, true, true, false, false, false, false, false, false] rfl rfl (take_ofW HT_.out HW_.out (by kernel_rfl)) (fun _ _ _ h => h) (Or.inl ⟨by rfl, ?_⟩) hHeld ?_ ?_
     rotate_left
     ·
      rintro w' ⟨s0, s1⟩
      go_simp
      with_reducible rfl
     rotate_left
     ·
      simp only [Act.put, sa0, sa1, sa2, i64_w, i32_w]
      rfl
     refine one_ (i := 10) (N := some 40) #[true, true, true, true, true, true, true, true, true, true, true, false, false, false, false, false] rfl rfl (one_of HT_.out (by kernel_rfl)) (by decide) (fun K hK => ?_)
     refine goes_ Tryd.func38 (by kernel_rfl) rfl #[.agg #[.int .u64 0, .int .u64 (IntKind.u64.wrap (rd l0_1 x18_1))], .int .i64 (wrap64 (32 * (wrap64 (x18_1 - (ji11)))))] (by rfl) rfl rfl (by (try simp only [List.map_toArray, List.map_cons, List.map_nil]); first | done | (simp only [hji11]; rfl) | rfl | (simp only [List.length_drop, List.length_take]; rfl)) ?_
     with_reducible refine (wide_Wide_Left.calls 0 (IntKind.u64.wrap (rd l0_1 x18_1)) (wrap64 (32 * (wrap64 (x18_1 - (ji11))))) t269 t270 _ A12.out).mono ?_
     rintro e w15 ⟨rfl, hb⟩
     refine ⟨_, rfl, ?_⟩
     refine ax3 (bb BK264 hb) (bb BK265 hb) (below_step bes hb) ?_
     clear BK264 BK265 HB
     intro BK264 BK265 HB
     (try clear hb)
     (try clear hb2)
     (try clear hk)
     (try clear hi)
     refine hK.out _ _ ⟨(blk_cell BK265.out 0).trans rfl, (blk_cell BK265.out 1).trans rfl⟩ (fun hHeld => ?_)
     clear hK K
     refine norm_ (a' := ?_) ?_ ?_
     rotate_left
     ·
      show Act.put _ (some 40) _ = _
      simp only [Act.put, sa0, sa1, sa2, i64_w, i32_w]
      rfl
     refine one_ (i := 11) (N := some 41) #[true, true, true, true, true, true, true, true, true, true, true, true, false, false, false, false] rfl rfl (one_of HT_.out (by kernel_rfl)) (by decide) (fun K hK => ?_)
     refine goes_ Tryd.func37 (by kernel_rfl) rfl #[.agg #[.int .u64 x266000_1, .int .u64 x266001_1], .agg #[.int .u64 t269, .int .u64 t270]] (by rfl) rfl rfl ga ?_
     with_reducible refine (wide_Wide_Add.calls x266000_1 x266001_1 t269 t270 t271 t272 t273 _ A13.out).mono ?_
     rintro e w16 ⟨rfl, hb⟩
     refine ⟨_, rfl, ?_⟩
     refine ax3 (bb BK264 hb) (bb BK265 hb) (below_step bes hb) ?_
     clear BK264 BK265 HB
     intro BK264 BK265 HB
     (try clear hb)
     (try clear hb2)
     (try clear hk)
     (try clear hi)
     refine hK.out _ _ ⟨(blk_cell BK265.out 0).trans rfl, (blk_cell BK265.out 1).trans rfl⟩ (fun hHeld => ?_)
     clear hK K
     refine norm_ (a' := ?_) ?_ ?_
     rotate_left
     ·
      show Act.put _ (some 41) _ = _
      simp only [Act.put, sa0, sa1, sa2, i64_w, i32_w]
      rfl
     refine pure_ (i := 12) (N := some 29) (v := ?_) (a' := ?_) #[true, true, true, true, true, true, true, true, true, true, true, true, true, false, false, false] rfl rfl (any_of HT_.out (by kernel_rfl)) (fun _ _ _ h => h) (Or.inl ⟨by rfl, ?_⟩) ?_ ?_
     rotate_left
     ·
      intro w'
      go_simp
      with_reducible rfl
     rotate_left
     ·
      simp only [Act.put, sa0, sa1, sa2, i64_w, i32_w]
      rfl
     refine pure_ (i := 13) (N := some 42) (v := ?_) (a' := ?_) #[true, true, true, true, true, true, true, true, true, true, true, true, true, true, false, false] rfl rfl (any_of HT_.out (by kernel_rfl)) (fun _ _ _ h => h) (Or.inl ⟨by rfl, ?_⟩) ?_ ?_
     rotate_left
     ·
      intro w'
      go_simp
      with_reducible rfl
     rotate_left
     ·
      simp only [Act.put, sa0, sa1, sa2, i64_w, i32_w]
      rfl
     refine pure_ (i := 14) (N := some 43) (v := ?_) (a' := ?_) #[true, true, true, true, true, true, true, true, true, true, true, true, true, true, true, false] rfl rfl (any_of HT_.out (by kernel_rfl)) (fun _ _ _ h => h) (Or.inl ⟨by rfl, ?_⟩) ?_ ?_
     rotate_left
     ·
      intro w'
      go_simp
      with_reducible rfl
     rotate_left
     ·
      simp only [Act.put, sa0, sa1, sa2, i64_w, i32_w]
      rfl
     refine last_ (i := 15) (N := none) #[true, true, true, true, true, true, true, true, true, true, true, true, true, true, true, true] rfl rfl (one_of HT_.out (by kernel_rfl)) (by decide) (fun K hK => ?_)
     have hs17 : w16.cell? ⟨gb265, 0, none⟩ = some (.int .u64 x266000_1) := (blk_cell BK265.out 0).trans rfl
     have hfs17 := blk_frozen BK265.out 0
     have hns17_0 := NB264_265.out
     have hms17_0 := NB265_264.out
     have hs18 : w16.cell? ⟨gb265, 1, none⟩ = some (.int .u64 x266001_1) := (blk_cell BK265.out 1).trans rfl
     have hfs18 := blk_frozen BK265.out 1
     have hns18_0 := NB264_265.out
     have hms18_0 := NB265_264.out
     refine skip_ (w1 := ?_) (by rfl) rfl ?_ ?_
     rotate_left
     ·
      go_simp
      rfl
     refine hK.out _ _ ?_
     clear hK K
     refine done_ (done_of HT_.out (by kernel_rfl)) ?_
     try go_wp2
     go_roundg k1
     case measure => have := HK1.out; omega
     case rel => exact ⟨(x6_1), (x7_1), (wrap64 (x18_1 + 1)), (t271), (t272), (by first | rfl | (simp; done) | (simp [*]; done)), (by first | rfl | (simp; done) | (simp [*]; done)), (by first | rfl | (simp; done) | (simp [*]; done)), H', ⟨by have := HK1.out; omega⟩, ⟨by (with_reducible repeat (first | refine blk_drewN ?_ _ | refine blk_drew ?_ | refine blk_alloc ?_ _)); refine blk_far ?_ NB264_265.out _; (with_reducible repeat (first | refine blk_drewN ?_ _ | refine blk_drew ?_ | refine blk_alloc ?_ _)); refine blk_far ?_ NB264_265.out _; (with_reducible repeat (first | refine blk_drewN ?_ _ | refine blk_drew ?_ | refine blk_alloc ?_ _)); exact BK264.out⟩, ⟨by (with_reducible repeat (first | refine blk_drewN ?_ _ | refine blk_drew ?_ | refine blk_alloc ?_ _)); refine blk_put (cs := #[.int .u64 t271, .int .u64 x266001_1]) ?_ 1 _ rfl; (with_reducible repeat (first | refine blk_drewN ?_ _ | refine blk_drew ?_ | refine blk_alloc ?_ _)); refine blk_put (cs := #[.int .u64 x266000_1, .int .u64 x266001_1]) ?_ 0 _ rfl; (with_reducible repeat (first | refine blk_drewN ?_ _ | refine blk_drew ?_ | refine blk_alloc ?_ _)); exact BK265.out⟩, ⟨bes⟩⟩
   ·
    rw [if_neg c7] at H
    have c7b0 : decide (x18_1 < (l0_1.length : Int)) = false := decide_eq_false c7
    clear c7
    obtain ⟨⟨t266, t267⟩, A190, H⟩ := Option.bind_eq_some_iff.mp H
    (try dsimp -simprocs only at H)
    have A19 := Aside0.mk A190
    clear A190
    simp only [Option.some.injEq, Prod.mk.injEq] at H
    obtain ⟨rfl, rfl⟩ := H
    have hnb20 := NB264_265.out
    have hnc20 := NB265_264.out
    have hcz21_0 := bc BK264 0 rfl
    have hcz21_1 := bc BK264 1 rfl
    have hcz21_2 := bc BK264 2 rfl
    have hfz21_0 := blk_frozen BK264.out 0
    have hfz21_1 := blk_frozen BK264.out 1
    have hfz21_2 := blk_frozen BK264.out 2
    have hcz22_0 := bc BK265 0 rfl
    have hcz22_1 := bc BK265 1 rfl
    have hfz22_0 := blk_frozen BK265.out 0
    have hfz22_1 := blk_frozen BK265.out 1
    go_wp2_with (first | ((with_reducible refine gate_callee (f := 39) rfl ?_); refine goesL_ (some 50) rfl rfl Tryd.func39 (by kernel_rfl) rfl #[.bool a0_0, .agg #[.int .u64 x266000_1, .int .u64 x266001_1], .int .i64 x6_1, .bool x7_1] rfl ga ?_; (with_reducible refine (round_Round.calls k1 a0_0 x266000_1 x266001_1 x6_1 x7_1 t266 t267 _ A19.out).mono ?_); rintro e w23 ⟨rfl, hb⟩; refine ⟨_, rfl, ?_⟩; refine ax3 (bb BK264 hb) (bb BK265 hb) (below_step bes hb) ?_; clear BK264; clear BK265; clear HB; intro BK264 BK265 HB; (try clear hb)))
    go_ret2
    exact ⟨er, bes⟩

/-! ### word_Exp: function 34 -/
def word_Exp.f (a0 : Int) : Option (Int) := some (wrap64 (Go.bits .and .u64 (a0 / 4503599627370496) 2047))
set_option maxHeartbeats 8000000 in
set_option maxRecDepth 100000 in
theorem word_Exp.calls (a0 : Int) (r : Int) (w : World) (h : word_Exp.f a0 = some r) :
  Calls Tryd.prog 34 #[.int .u64 a0] w fun e w' => e = .returned (.int .i64 r) ∧ Drawn0 w w' := by
 have H : (some (wrap64 (Go.bits .and .u64 (a0 / 4503599627370496) 2047))) = some r := h
 clear h
 obtain rfl := Option.some.inj H
 go_enter Tryd.func34, Tryd.ntmps34
 go_wp2
 go_ret
 exact ⟨by first | rfl | (simp; done) | (simp [*]; done), by repeat (first | exact Drawn0.refl _ | apply Drawn0.step)⟩

/-! ### word_Finite: function 9 -/
def word_Finite.f (a0 : Int) : Option (Bool) := (word_Exp.f a0).bind fun t274 => (some (decide (t274 < 2047)))
set_option maxHeartbeats 8000000 in
set_option maxRecDepth 100000 in
theorem word_Finite.calls (a0 : Int) (r : Bool) (w : World) (h : word_Finite.f a0 = some r) :
  Calls Tryd.prog 9 #[.int .u64 a0] w fun e w' => e = .returned (.bool r) ∧ Drawn0 w w' := by
 have H : ((word_Exp.f a0).bind fun t274 => (some (decide (t274 < 2047)))) = some r := h
 clear h
 obtain ⟨t274, A20, H⟩ := Option.bind_eq_some_iff.mp H
 (try dsimp -simprocs only at H)
 have A2 := Aside0.mk A20
 clear A20
 obtain rfl := Option.some.inj H
 go_enter Tryd.func9, Tryd.ntmps9
 go_wp2_with (first | ((with_reducible refine gate_callee (f := 34) rfl ?_); refine goesL_ (some 4) rfl rfl Tryd.func34 (by kernel_rfl) rfl #[.int .u64 a0] rfl ga ?_; (with_reducible refine (word_Exp.calls a0 t274 _ A2.out).mono ?_); rintro e w' ⟨rfl, ⟨nd, rfl⟩⟩; refine ⟨_, rfl, ?_⟩))
 go_ret
 exact ⟨by first | rfl | (simp; done) | (simp [*]; done), by repeat (first | exact Drawn0.refl _ | apply Drawn0.step)⟩

/-! ### word_Neg: function 17 -/
def word_Neg.f (a0 : Int) : Option (Bool) := some ((a0 / 9223372036854775808) == 1)
set_option maxHeartbeats 8000000 in
set_option maxRecDepth 100000 in
theorem word_Neg.calls (a0 : Int) (r : Bool) (w : World) (h : word_Neg.f a0 = some r) :
  Calls Tryd.prog 17 #[.int .u64 a0] w fun e w' => e = .returned (.bool r) ∧ Drawn0 w w' := by
 have H : (some ((a0 / 9223372036854775808) == 1)) = some r := h
 clear h
 obtain rfl := Option.some.inj H
 go_enter Tryd.func17, Tryd.ntmps17
 go_wp2
 go_ret
 exact ⟨by first | rfl | (simp; done) | (simp [*]; done), by repeat (first | exact Drawn0.refl _ | apply Drawn0.step)⟩

/-! ### word_Frac: function 53 -/
def word_Frac.f (a0 : Int) : Option (Int) := some (Go.bits .and .u64 a0 4503599627370495)
set_option maxHeartbeats 8000000 in
set_option maxRecDepth 100000 in
theorem word_Frac.calls (a0 : Int) (r : Int) (w : World) (h : word_Frac.f a0 = some r) :
  Calls Tryd.prog 53 #[.int .u64 a0] w fun e w' => e = .returned (.int .u64 r) ∧ Drawn0 w w' := by
 have H : (some (Go.bits .and .u64 a0 4503599627370495)) = some r := h
 clear h
 obtain rfl := Option.some.inj H
 go_enter Tryd.func53, Tryd.ntmps53
 go_wp2
 go_ret
 exact ⟨by first | rfl | (simp; done) | (simp [*]; done), by repeat (first | exact Drawn0.refl _ | apply Drawn0.step)⟩

/-! ### word_Kind: function 52 -/
def word_Kind.j0 : Nat → Int → Int → Bool → Option (Int)
 | 0, _, _, _ => none
 | k + 1, x3, x4, x9 => if x9 = true then (some 1) else (if x3 = 0 then (some 2) else (if x3 < 2047 then (some 3) else (if x4 = 0 then (some 4) else (some 5))))
def word_Kind.f (k : Nat) (a0 : Int) : Option (Int) := (word_Exp.f a0).bind fun t275 => ((word_Frac.f a0).bind fun t276 => (if t275 = 0 then (word_Kind.j0 k t275 t276 (t276 == 0)) else (word_Kind.j0 k t275 t276 false)))
theorem word_Kind.mono_l : ∀ k, (∀ y0 y1 y2, LeO (word_Kind.j0 k y0 y1 y2) (word_Kind.j0 (k + 1) y0 y1 y2))
 | 0 => fun _ _ _ r h => by simp [word_Kind.j0] at h
 | k + 1 => by
  have ih0 := word_Kind.mono_l k
  ·
   intro y0 y1 y2
   unfold word_Kind.j0
   repeat' with_reducible first | apply ih0 | exact LeO.refl _ | exact LeO.none _ | refine LeO.ite ?_ ?_ | refine LeO.bind ?_ (fun _ => ?_)
theorem word_Kind.mono : ∀ a0 k, LeO (word_Kind.f k a0) (word_Kind.f (k + 1) a0) := by
 intro a0 k
 have ih0 := word_Kind.mono_l k
 unfold word_Kind.f
 repeat' with_reducible first | apply ih0 | exact LeO.refl _ | exact LeO.none _ | refine LeO.ite ?_ ?_ | refine LeO.bind ?_ (fun _ => ?_)
set_option maxHeartbeats 8000000 in
set_option maxRecDepth 100000 in
theorem word_Kind.calls (k : Nat) (a0 : Int) (r : Int) (w : World) (h : word_Kind.f k a0 = some r) :
  Calls Tryd.prog 52 #[.int .u64 a0] w fun e w' => e = .returned (.int .i64 r) ∧ Drawn0 w w' := by
 have H : ((word_Exp.f a0).bind fun t275 => ((word_Frac.f a0).bind fun t276 => (if t275 = 0 then (word_Kind.j0 k t275 t276 (t276 == 0)) else (word_Kind.j0 k t275 t276 false)))) = some r := h
 clear h
 obtain ⟨t275, A20, H⟩ := Option.bind_eq_some_iff.mp H
 (try dsimp -simprocs only at H)
 have A2 := Aside0.mk A20
 clear A20
 obtain ⟨t276, A30, H⟩ := Option.bind_eq_some_iff.mp H
 (try dsimp -simprocs only at H)
 have A3 := Aside0.mk A30
 clear A30
 have HC4 := Aside0.mk H
 clear H
 go_enter Tryd.func52, Tryd.ntmps52
 go_upto_region 2 with (first | ((with_reducible refine gate_callee (f := 34) rfl ?_); refine goesL_ (some 6) rfl rfl Tryd.func34 (by kernel_rfl) rfl #[.int .u64 a0] rfl ga ?_; (with_reducible refine (word_Exp.calls a0 t275 _ A2.out).mono ?_); rintro e w' ⟨rfl, ⟨nd, rfl⟩⟩; refine ⟨_, rfl, ?_⟩) | ((with_reducible refine gate_callee (f := 53) rfl ?_); refine goesL_ (some 8) rfl rfl Tryd.func53 (by kernel_rfl) rfl #[.int .u64 a0] rfl ga ?_; (with_reducible refine (word_Frac.calls a0 t276 _ A3.out).mono ?_); rintro e w' ⟨rfl, ⟨nd, rfl⟩⟩; refine ⟨_, rfl, ?_⟩))
 (try simp only [Act.put, sa0, sa1, sa2])
 go_cut [9] (fun v9 wc => ∃ (kq : Nat) (x9_3 : Bool), v9 = .bool x9_3 ∧ Aside0 (word_Kind.j0 kq t275 t276 x9_3 = some r) ∧ Aside0 (kq ≤ k) ∧ Drawn0 w wc)
 case first =>
  have H := HC4.out
  clear HC4
  by_cases c5 : t275 = 0
  rotate_left
  ·
   rw [if_neg c5] at H
   have c5b0 : (t275 == 0) = false := beq_eq_false_iff_ne.mpr c5
   have c5b1 : (t275 != 0) = true := bne_iff_ne.mpr c5
   (first | rw [c5b0] | (simp only [i64_w, i32_w]; rw [c5b0]) | skip)
   have H' := Aside0.mk H
   clear H
   go_wp2
   go_meet
   case rel => exact ⟨_, (false), (by first | rfl | (simp; done) | (simp [*]; done)), H', ⟨by first | omega | exact Nat.le_refl _⟩, by repeat (first | exact Drawn0.refl _ | apply Drawn0.step)⟩
  rw [if_pos c5] at H
  have c5b0 : (t275 == 0) = true := beq_iff_eq.mpr c5
  have c5b1 : (t275 != 0) = false := bne_eq_false_iff_eq.mpr c5
  clear c5
  (first | rw [c5b0] | (simp only [i64_w, i32_w]; rw [c5b0]) | skip)
  have H' := Aside0.mk H
  clear H
  go_wp2
  go_meet
  case rel => exact ⟨_, ((t276 == 0)), (by first | rfl | (simp; done) | (simp [*]; done)), H', ⟨by first | omega | exact Nat.le_refl _⟩, by repeat (first | exact Drawn0.refl _ | apply Drawn0.step)⟩
 case rest =>
  clear HC4
  try clear p2
  try clear c3
  try clear c5
  try clear c5b0
  try clear c5b1
  obtain ⟨kq, x9_3, rfl, HA, HJ3, ⟨mc3, rfl⟩⟩ := hcut
  cases kq with
  | zero => exact absurd HA.out (by simp [word_Kind.j0])
  | succ kj3 =>
   have H := HA.out
   clear HA
   simp only [word_Kind.j0] at H
   by_cases c6 : x9_3 = true
   ·
    subst c6
    rw [if_pos rfl] at H
    obtain rfl := Option.some.inj H
    go_wp2
    go_ret
    exact ⟨by first | rfl | (simp; done) | (simp [*]; done), by repeat (first | exact Drawn0.refl _ | apply Drawn0.step)⟩
   ·
    replace c6 := Bool.eq_false_iff.mpr c6
    subst c6
    rw [if_neg (show ¬ (false = true) by decide)] at H
    by_cases c7 : t275 = 0
    ·
     rw [if_pos c7] at H
     have c7b0 : (t275 == 0) = true := beq_iff_eq.mpr c7
     have c7b1 : (t275 != 0) = false := bne_eq_false_iff_eq.mpr c7
     clear c7
     obtain rfl := Option.some.inj H
     go_wp2
     go_ret
     exact ⟨by first | rfl | (simp; done) | (simp [*]; done), by repeat (first | exact Drawn0.refl _ | apply Drawn0.step)⟩
    ·
     rw [if_neg c7] at H
     have c7b0 : (t275 == 0) = false := beq_eq_false_iff_ne.mpr c7
     have c7b1 : (t275 != 0) = true := bne_iff_ne.mpr c7
     by_cases c8 : t275 < 2047
     ·
      rw [if_pos c8] at H
      have c8b0 : decide (t275 < 2047) = true := decide_eq_true c8
      clear c8
      obtain rfl := Option.some.inj H
      go_wp2
      go_ret
      exact ⟨by first | rfl | (simp; done) | (simp [*]; done), by repeat (first | exact Drawn0.refl _ | apply Drawn0.step)⟩
     ·
      rw [if_neg c8] at H
      have c8b0 : decide (t275 < 2047) = false := decide_eq_false c8
      clear c8
      by_cases c9 : t276 = 0
      rotate_left
      ·
       rw [if_neg c9] at H
       have c9b0 : (t276 == 0) = false := beq_eq_false_iff_ne.mpr c9
       have c9b1 : (t276 != 0) = true := bne_iff_ne.mpr c9
       obtain rfl := Option.some.inj H
       go_wp2
       go_ret
       exact ⟨by first | rfl | (simp; done) | (simp [*]; done), by repeat (first | exact Drawn0.refl _ | apply Drawn0.step)⟩

      rw [if_pos c9] at H
      have c9b0 : (t276 == 0) = true := beq_iff_eq.mpr c9
      have c9b1 : (t276 != 0) = false := bne_eq_false_iff_eq.mpr c9
      clear c9
      obtain rfl := Option.some.inj H
      go_wp2
      go_ret
      exact ⟨by first | rfl | (simp; done) | (simp [*]; done), by repeat (first | exact Drawn0.refl _ | apply Drawn0.step)⟩
/-! ### word_Parts: function 18 -/
def word_Parts.f (k : Nat) (a0 : Int) : Option (Int × Int) := (word_Kind.f k a0).bind fun t277 => (if t277 = 2 then ((word_Frac.f a0).bind fun t278 => (some (t278, (-1074)))) else (if t277 = 3 then ((word_Frac.f a0).bind fun t279 => ((word_Exp.f a0).bind fun t280 => (some (Go.bits .or .u64 t279 4503599627370496, wrap64 (t280 - 1075))))) else (some (0, 0))))
theorem word_Parts.mono : ∀ a0 k, LeO (word_Parts.f k a0) (word_Parts.f (k + 1) a0) := by
 intro a0 k
 unfold word_Parts.f
 repeat' with_reducible first | apply word_Kind.mono | exact LeO.refl _ | exact LeO.none _ | refine LeO.ite ?_ ?_ | refine LeO.bind ?_ (fun _ => ?_)
set_option maxHeartbeats 8000000 in
set_option maxRecDepth 100000 in
theorem word_Parts.calls (k : Nat) (a0 : Int) (r1 : Int) (r2 : Int) (w : World) (h : word_Parts.f k a0 = some (r1, r2)) :
  Calls Tryd.prog 18 #[.int .u64 a0] w fun e w' => e = .returned (.tuple #[.int .u64 r1, .int .i64 r2]) ∧ Drawn0 w w' := by
 have H : ((word_Kind.f k a0).bind fun t277 => (if t277 = 2 then ((word_Frac.f a0).bind fun t278 => (some (t278, (-1074)))) else (if t277 = 3 then ((word_Frac.f a0).bind fun t279 => ((word_Exp.f a0).bind fun t280 => (some (Go.bits .or .u64 t279 4503599627370496, wrap64 (t280 - 1075))))) else (some (0, 0))))) = some (r1, r2) := h
 clear h
 obtain ⟨t277, A20, H⟩ := Option.bind_eq_some_iff.mp H
 (try dsimp -simprocs only at H)
 have A2 := Aside0.mk A20
 clear A20
 by_cases c3 : t277 = 2
 ·
  rw [if_pos c3] at H
  have c3b0 : (t277 == 2) = true := beq_iff_eq.mpr c3
  have c3b1 : (t277 != 2) = false := bne_eq_false_iff_eq.mpr c3
  clear c3
  obtain ⟨t278, A40, H⟩ := Option.bind_eq_some_iff.mp H
  (try dsimp -simprocs only at H)
  have A4 := Aside0.mk A40
  clear A40
  simp only [Option.some.injEq, Prod.mk.injEq] at H
  obtain ⟨rfl, rfl⟩ := H
  go_enter Tryd.func18, Tryd.ntmps18
  go_wp2_with (first | ((with_reducible refine gate_callee (f := 52) rfl ?_); refine goesL_ (some 5) rfl rfl Tryd.func52 (by kernel_rfl) rfl #[.int .u64 a0] rfl ga ?_; (with_reducible refine (word_Kind.calls k a0 t277 _ A2.out).mono ?_); rintro e w' ⟨rfl, ⟨nd, rfl⟩⟩; refine ⟨_, rfl, ?_⟩) | ((with_reducible refine gate_callee (f := 53) rfl ?_); refine goesL_ (some 9) rfl rfl Tryd.func53 (by kernel_rfl) rfl #[.int .u64 a0] rfl ga ?_; (with_reducible refine (word_Frac.calls a0 t278 _ A4.out).mono ?_); rintro e w' ⟨rfl, ⟨nd, rfl⟩⟩; refine ⟨_, rfl, ?_⟩))
  go_ret2
  exact ⟨by first | rfl | (simp; done) | (simp [*]; done), by repeat (first | exact Drawn0.refl _ | apply Drawn0.step)⟩
 ·
  rw [if_neg c3] at H
  have c3b0 : (t277 == 2) = false := beq_eq_false_iff_ne.mpr c3
  have c3b1 : (t277 != 2) = true := bne_iff_ne.mpr c3
  by_cases c5 : t277 = 3
  rotate_left
  ·
   rw [if_neg c5] at H
   have c5b0 : (t277 == 3) = false := beq_eq_false_iff_ne.mpr c5
   have c5b1 : (t277 != 3) = true := bne_iff_ne.mpr c5
   simp only [Option.some.injEq, Prod.mk.injEq] at H
   obtain ⟨rfl, rfl⟩ := H
   go_enter Tryd.func18, Tryd.ntmps18
   go_wp2_with (first | ((with_reducible refine gate_callee (f := 52) rfl ?_); refine goesL_ (some 5) rfl rfl Tryd.func52 (by kernel_rfl) rfl #[.int .u64 a0] rfl ga ?_; (with_reducible refine (word_Kind.calls k a0 t277 _ A2.out).mono ?_); rintro e w' ⟨rfl, ⟨nd, rfl⟩⟩; refine ⟨_, rfl, ?_⟩))
   go_ret2
   exact ⟨by first | rfl | (simp; done) | (simp [*]; done), by repeat (first | exact Drawn0.refl _ | apply Drawn0.step)⟩

  rw [if_pos c5] at H
  have c5b0 : (t277 == 3) = true := beq_iff_eq.mpr c5
  have c5b1 : (t277 != 3) = false := bne_eq_false_iff_eq.mpr c5
  clear c5
  obtain ⟨t279, A60, H⟩ := Option.bind_eq_some_iff.mp H
  (try dsimp -simprocs only at H)
  have A6 := Aside0.mk A60
  clear A60
  obtain ⟨t280, A70, H⟩ := Option.bind_eq_some_iff.mp H
  (try dsimp -simprocs only at H)
  have A7 := Aside0.mk A70
  clear A70
  simp only [Option.some.injEq, Prod.mk.injEq] at H
  obtain ⟨rfl, rfl⟩ := H
  go_enter Tryd.func18, Tryd.ntmps18
  go_wp2_with (first | ((with_reducible refine gate_callee (f := 52) rfl ?_); refine goesL_ (some 5) rfl rfl Tryd.func52 (by kernel_rfl) rfl #[.int .u64 a0] rfl ga ?_; (with_reducible refine (word_Kind.calls k a0 t277 _ A2.out).mono ?_); rintro e w' ⟨rfl, ⟨nd, rfl⟩⟩; refine ⟨_, rfl, ?_⟩) | ((with_reducible refine gate_callee (f := 53) rfl ?_); refine goesL_ (some 13) rfl rfl Tryd.func53 (by kernel_rfl) rfl #[.int .u64 a0] rfl ga ?_; (with_reducible refine (word_Frac.calls a0 t279 _ A6.out).mono ?_); rintro e w' ⟨rfl, ⟨nd, rfl⟩⟩; refine ⟨_, rfl, ?_⟩) | ((with_reducible refine gate_callee (f := 34) rfl ?_); refine goesL_ (some 16) rfl rfl Tryd.func34 (by kernel_rfl) rfl #[.int .u64 a0] rfl ga ?_; (with_reducible refine (word_Exp.calls a0 t280 _ A7.out).mono ?_); rintro e w' ⟨rfl, ⟨nd, rfl⟩⟩; refine ⟨_, rfl, ?_⟩))
  go_ret2
  exact ⟨by first | rfl | (simp; done) | (simp [*]; done), by repeat (first | exact Drawn0.refl _ | apply Drawn0.step)⟩
/-! ### dyad_Of: function 8 -/
def dyad_Of.f (k : Nat) (a0 : Int) : Option (Bool × List Int × Int × Bool) := (word_Finite.f a0).bind fun t282 => (if t282 = true then ((word_Parts.f k a0).bind fun bt283 => ((word_Neg.f a0).bind fun t285 => ((dyad_trim.f k t285 (([(bt283.1) % 4294967296, (bt283.1 / 4294967296) % 4294967296] : List Int)) bt283.2).bind fun bt289 => (some (bt289.1, bt289.2.1, bt289.2.2, true))))) else (some (false, ([] : List Int), 0, false)))
theorem dyad_Of.mono : ∀ a0 k, LeO (dyad_Of.f k a0) (dyad_Of.f (k + 1) a0) := by
 intro a0 k
 unfold dyad_Of.f
 repeat' with_reducible first | apply dyad_trim.mono | apply word_Parts.mono | exact LeO.refl _ | exact LeO.none _ | refine LeO.ite ?_ ?_ | refine LeO.bind ?_ (fun _ => ?_)
set_option maxHeartbeats 8000000 in
set_option maxRecDepth 100000 in
theorem dyad_Of.calls (k : Nat) (a0 : Int) (r1 : Bool) (r2 : List Int) (r3 : Int) (r4 : Bool) (w : World) (hT : TabW w) (h : dyad_Of.f k a0 = some (r1, r2, r3, r4)) :
  Calls Tryd.prog 8 #[.int .u64 a0] w fun e w' => ∃ v1_ : Value, e = .returned (.tuple #[.agg #[.bool r1, v1_, .int .i64 r3], .bool r4]) ∧ Kd.V (Kd.int .u32) 56 w' w.heap.size (fun k_ => (w.heap.size ≤ k_)) v1_ r2 ∧ Below w.heap.size w w' := by
 have hu26 := Tryd.underlying26
 have HB := Aside0.mk (Below.refl w.heap.size w)
 have H : ((word_Finite.f a0).bind fun t282 => (if t282 = true then ((word_Parts.f k a0).bind fun bt283 => ((word_Neg.f a0).bind fun t285 => ((dyad_trim.f k t285 (([(bt283.1) % 4294967296, (bt283.1 / 4294967296) % 4294967296] : List Int)) bt283.2).bind fun bt289 => (some (bt289.1, bt289.2.1, bt289.2.2, true))))) else (some (false, ([] : List Int), 0, false)))) = some (r1, r2, r3, r4) := h
 clear h
 obtain ⟨t282, A20, H⟩ := Option.bind_eq_some_iff.mp H
 (try dsimp -simprocs only at H)
 have A2 := Aside0.mk A20
 clear A20
 by_cases c3 : t282 = true
 rotate_left
 ·
  replace c3 := Bool.eq_false_iff.mpr c3
  subst c3
  rw [if_neg (show ¬ (false = true) by decide)] at H
  simp only [Option.some.injEq, Prod.mk.injEq] at H
  obtain ⟨rfl, rfl, rfl, rfl⟩ := H
  go_enter Tryd.func8, Tryd.ntmps8
  go_wp2_with (first | ((with_reducible refine gate_dst (N := 2) rfl ?_); refine gbox (N := 2) (cs := #[.bool false, .slice none 0 0, .int .i64 0]) (t := 26) ?_; intro gb281 hg w14 hbox hb; refine ax4 (below_step bel hb) hbox ((ge hg : w.heap.size ≤ gb281)) ((ge hg : w.heap.size ≤ gb281)) ?_; clear HB; intro HB BK281 GW281 GE281; clear hb hbox hg) | ((with_reducible refine gate_callee (f := 9) rfl ?_); refine goesL_ (some 7) rfl rfl Tryd.func9 (by kernel_rfl) rfl #[.int .u64 a0] rfl ga ?_; (with_reducible refine (word_Finite.calls a0 false _ A2.out).mono ?_); rintro e w' ⟨rfl, ⟨nd, rfl⟩⟩; refine ⟨_, rfl, ?_⟩; (try (rw [drewN_self w14]; generalize hq_ : World.drewN w14 _ = w14; have n0_ : Aside0 (w14.heap[gb281]? = some (.cells #[.bool false, .slice none 0 0, .int .i64 0] 26 (0, 0))) := ⟨by rw [← hq_]; exact (kb BK281)⟩; have n1_ : Aside0 (Below w.heap.size w w14) := ⟨by rw [← hq_]; exact bes⟩; clear BK281 HB hq_; have BK281 := n0_; have HB := n1_; clear n0_ n1_)); have hcz15_0 := bc BK281 0 rfl; have hcz15_1 := bc BK281 1 rfl; have hcz15_2 := bc BK281 2 rfl; have hfz15_0 := blk_frozen BK281.out 0; have hfz15_1 := blk_frozen BK281.out 1; have hfz15_2 := blk_frozen BK281.out 2))
  refine bodyPost_ret (results_ct rfl _ _ gb281 26 #[.bool false, .slice none 0 0, .int .i64 0] (0, 0) _ rfl (by (with_reducible repeat (first | refine blk_drewN ?_ _ | refine blk_drew ?_ | refine blk_alloc ?_ _)); refine blk_put (cs := #[.bool false, .slice none 0 0, .int .i64 0]) ?_ 2 _ rfl; (with_reducible repeat (first | refine blk_drewN ?_ _ | refine blk_drew ?_ | refine blk_alloc ?_ _)); refine blk_put (cs := #[.bool false, .slice none 0 0, .int .i64 0]) ?_ 1 _ rfl; (with_reducible repeat (first | refine blk_drewN ?_ _ | refine blk_drew ?_ | refine blk_alloc ?_ _)); refine blk_put (cs := #[.bool false, .slice none 0 0, .int .i64 0]) ?_ 0 _ rfl; (with_reducible repeat (first | refine blk_drewN ?_ _ | refine blk_drew ?_ | refine blk_alloc ?_ _)); exact BK281.out) Tryd.underlying26 rfl (by kernel_rfl)) rfl ?_
  exact ⟨_, er, Kd.V_nil _ _ _ _ _, bes⟩

 subst c3
 rw [if_pos rfl] at H
 obtain ⟨⟨t283, t284⟩, A40, H⟩ := Option.bind_eq_some_iff.mp H
 (try dsimp -simprocs only at H)
 have A4 := Aside0.mk A40
 clear A40
 obtain ⟨t285, A50, H⟩ := Option.bind_eq_some_iff.mp H
 (try dsimp -simprocs only at H)
 have A5 := Aside0.mk A50
 clear A50
 obtain ⟨y286, hy286⟩ : ∃ y_ : List Int, y_ = (([(t283) % 4294967296, (t283 / 4294967296) % 4294967296] : List Int)) := ⟨_, rfl⟩
 replace H : ((dyad_trim.f k t285 y286 t284).bind fun bt289 => (some (bt289.1, bt289.2.1, bt289.2.2, true))) = some (r1, r2, r3, r4) := by first | (rw [hy286]; with_reducible exact H) | (have H2_ := (Option.bind_some _ _).symm.trans H; rw [hy286]; with_reducible exact H2_) | (have H2_ := (Option.bind_some _ _).symm.trans H; with_reducible exact H2_) | with_reducible exact H | (rw [hy286]; exact H) | exact H
 have Ny286 := Aside0.mk hy286
 clear hy286
 obtain ⟨⟨t289, t290, t293⟩, A60, H⟩ := Option.bind_eq_some_iff.mp H
 (try dsimp -simprocs only at H)
 have A6 := Aside0.mk A60
 clear A60
 simp only [Option.some.injEq, Prod.mk.injEq] at H
 obtain ⟨rfl, rfl, rfl, rfl⟩ := H
 go_enter Tryd.func8, Tryd.ntmps8
 go_wp2_with (first | ((with_reducible refine gate_dst (N := 2) rfl ?_); refine gbox (N := 2) (cs := #[.bool false, .slice none 0 0, .int .i64 0]) (t := 26) ?_; intro gb281 hg w7 hbox hb; refine ax4 (below_step bel hb) hbox ((ge hg : w.heap.size ≤ gb281)) ((ge hg : w.heap.size ≤ gb281)) ?_; clear HB; intro HB BK281 GW281 GE281; clear hb hbox hg) | ((with_reducible refine gate_callee (f := 9) rfl ?_); refine goesL_ (some 7) rfl rfl Tryd.func9 (by kernel_rfl) rfl #[.int .u64 a0] rfl ga ?_; (with_reducible refine (word_Finite.calls a0 true _ A2.out).mono ?_); rintro e w' ⟨rfl, ⟨nd, rfl⟩⟩; refine ⟨_, rfl, ?_⟩; (try (rw [drewN_self w7]; generalize hq_ : World.drewN w7 _ = w7; have n0_ : Aside0 (w7.heap[gb281]? = some (.cells #[.bool false, .slice none 0 0, .int .i64 0] 26 (0, 0))) := ⟨by rw [← hq_]; exact (kb BK281)⟩; have n1_ : Aside0 (Below w.heap.size w w7) := ⟨by rw [← hq_]; exact bes⟩; clear BK281 HB hq_; have BK281 := n0_; have HB := n1_; clear n0_ n1_))) | ((with_reducible refine gate_callee (f := 18) rfl ?_); refine goesL_ (some 12) rfl rfl Tryd.func18 (by kernel_rfl) rfl #[.int .u64 a0] rfl ga ?_; (with_reducible refine (word_Parts.calls k a0 t283 t284 _ A4.out).mono ?_); rintro e w' ⟨rfl, ⟨nd, rfl⟩⟩; refine ⟨_, rfl, ?_⟩; (try (rw [drewN_self w7]; generalize hq_ : World.drewN w7 _ = w7; have n0_ : Aside0 (w7.heap[gb281]? = some (.cells #[.bool false, .slice none 0 0, .int .i64 0] 26 (0, 0))) := ⟨by rw [← hq_]; exact (kb BK281)⟩; have n1_ : Aside0 (Below w.heap.size w w7) := ⟨by rw [← hq_]; exact bes⟩; clear BK281 HB hq_; have BK281 := n0_; have HB := n1_; clear n0_ n1_))) | ((with_reducible refine gate_callee (f := 17) rfl ?_); refine goesL_ (some 16) rfl rfl Tryd.func17 (by kernel_rfl) rfl #[.int .u64 a0] rfl ga ?_; (with_reducible refine (word_Neg.calls a0 t285 _ A5.out).mono ?_); rintro e w' ⟨rfl, ⟨nd, rfl⟩⟩; refine ⟨_, rfl, ?_⟩; (try (rw [drewN_self w7]; generalize hq_ : World.drewN w7 _ = w7; have n0_ : Aside0 (w7.heap[gb281]? = some (.cells #[.bool false, .slice none 0 0, .int .i64 0] 26 (0, 0))) := ⟨by rw [← hq_]; exact (kb BK281)⟩; have n1_ : Aside0 (Below w.heap.size w w7) := ⟨by rw [← hq_]; exact bes⟩; clear BK281 HB hq_; have BK281 := n0_; have HB := n1_; clear n0_ n1_))) | ((with_reducible refine gate_dst (N := 22) rfl ?_); refine Kd.R_lit (Kd.int .u32) _ 56 ?hg (N := 22) ?hd (xs := ([(t283) % 4294967296, (t283 / 4294967296) % 4294967296] : List Int)) (inner := [.int .u32 ((t283) % 4294967296), .int .u32 ((t283 / 4294967296) % 4294967296)]) (ok := fun _ => True) (okp := fun _ => True) ?hr ?hp (fun _ hk => hk) trivial (Below.refl _ _) (Nat.le_refl _) (by simp) ?_; (case hd => rfl); (case hg => rfl); (case hr => first | (go_simp; done) | (go_simp; rfl)); (case hp => exact (Reps.one (show Kd.M (Kd.int .u32) _ _ _ ((t283) % 4294967296) [.int .u32 ((t283) % 4294967296)] from rfl) (Reps.one (show Kd.M (Kd.int .u32) _ _ _ ((t283 / 4294967296) % 4294967296) [.int .u32 ((t283 / 4294967296) % 4294967296)] from rfl) (Reps.none _ _)))); intro v287 w8 ho9 hb hg_ hnew_; clear hg_ hnew_; (first | rw [← Ny286.out] at ho9 | (simp only [Int.reduceToNat] at ho9; rw [← Ny286.out] at ho9)); refine ax3 (Kd.R_lower (Kd.R_newM (M := fun k_ => (w.heap.size ≤ k_)) ho9 (below_size bes) (fun k_ h_ => h_)) (below_size bes)) (bb BK281 hb) (below_step bes hb) ?_; clear BK281; clear HB; intro HO288 BK281 HB; clear hb ho9; obtain ⟨Ao10, co10, eo10⟩ := Kd.R_slice HO288.out; subst eo10) | ((with_reducible refine gate_callee (f := 33) rfl ?_); refine goesL_ (some 24) rfl rfl Tryd.func33 (by kernel_rfl) rfl #[.bool t285, .slice Ao10 y286.length co10, .int .i64 t284] rfl ga ?_; (with_reducible refine (dyad_trim.calls k t285 (fun k_ => some k_ = (.slice Ao10 y286.length co10 : Value).ownBlock) _ _ y286 t284 t289 t290 t293 _ ?side1 ?side2 A6.out).mono ?_); (case side1 => exact Kd.R_V (Kd.R_tight rfl (Kd.R_types (HO288.out) BK281.out (by decide)))); (case side2 => first | exact hT | exact TabW.drewN hT _ | exact TabW.drew hT | exact TabW.below hT bes); rintro e w11 ⟨v291, rfl, ho0, hb⟩; refine ⟨_, rfl, ?_⟩; refine ax4 (Kd.R_below (kr HO288) hb) (Kd.V_lower (Kd.V_mono (ok' := fun k_ => (w.heap.size ≤ k_) ∧ k_ ≠ gb281) ho0 (fun k_ hk_ => ⟨Or.elim hk_ (fun hs_ => ((Kd.R_types (HO288.out) BK281.out (by decide)).1 k_ hs_.symm).1.1) (fun hn_ => (Nat.le_trans (below_size bes) hn_)), Or.elim hk_ (fun hs_ => ((Kd.R_types (HO288.out) BK281.out (by decide)).1 k_ hs_.symm).2) (fun hn_ => (fb BK281 k_ hn_))⟩)) (below_size bes)) (bb BK281 hb) (below_step bes hb) ?_; clear HO288; clear BK281; clear HB; intro HO288 HO292 BK281 HB; (try clear hb); (try clear ho0); have hcz12_0 := bc BK281 0 rfl; have hcz12_1 := bc BK281 1 rfl; have hcz12_2 := bc BK281 2 rfl; have hfz12_0 := blk_frozen BK281.out 0; have hfz12_1 := blk_frozen BK281.out 1; have hfz12_2 := blk_frozen BK281.out 2; obtain ⟨Ao13, co13, eo13⟩ := Kd.V_slice HO292.out; subst eo13))
 refine bodyPost_ret (results_ct rfl _ _ gb281 26 #[.bool t289, .slice Ao13 t290.length co13, .int .i64 t293] (0, 0) _ rfl (by (with_reducible repeat (first | refine blk_drewN ?_ _ | refine blk_drew ?_ | refine blk_alloc ?_ _)); refine blk_put (cs := #[.bool t289, .slice Ao13 t290.length co13, .int .i64 0]) ?_ 2 _ rfl; (with_reducible repeat (first | refine blk_drewN ?_ _ | refine blk_drew ?_ | refine blk_alloc ?_ _)); refine blk_put (cs := #[.bool t289, .slice none 0 0, .int .i64 0]) ?_ 1 _ rfl; (with_reducible repeat (first | refine blk_drewN ?_ _ | refine blk_drew ?_ | refine blk_alloc ?_ _)); refine blk_put (cs := #[.bool false, .slice none 0 0, .int .i64 0]) ?_ 0 _ rfl; (with_reducible repeat (first | refine blk_drewN ?_ _ | refine blk_drew ?_ | refine blk_alloc ?_ _)); exact BK281.out) Tryd.underlying26 rfl (by kernel_rfl)) rfl ?_
 exact ⟨_, er, by (with_reducible repeat (first | apply Kd.V_alloc | apply Kd.V_drewN | apply Kd.V_drew)); exact Kd.V_mono (Kd.V_far (p := ⟨gb281, 2, none⟩) (Kd.V_far (p := ⟨gb281, 1, none⟩) (Kd.V_far (p := ⟨gb281, 0, none⟩) (Kd.V_mono HO292.out (fun k_ hk => (⟨hk, hk.2⟩ : _ ∧ k_ ≠ gb281))) (fun _ hk => hk.2) (.bool t289)) (fun _ hk => hk.2) (.slice Ao13 t290.length co13)) (fun _ hk => hk.2) (.int .i64 t293)) (fun _ hk => hk.1.1), bes⟩
/-! ### gimballaw07_of: function 21 -/
def gimballaw07_of.f (k : Nat) (a0 : Int) : Option (Bool × List Int × Int) := (dyad_Of.f k a0).bind fun bt295 => (some (bt295.1, bt295.2.1, bt295.2.2.1))
theorem gimballaw07_of.mono : ∀ a0 k, LeO (gimballaw07_of.f k a0) (gimballaw07_of.f (k + 1) a0) := by
 intro a0 k
 unfold gimballaw07_of.f
 repeat' with_reducible first | apply dyad_Of.mono | exact LeO.refl _ | exact LeO.none _ | refine LeO.ite ?_ ?_ | refine LeO.bind ?_ (fun _ => ?_)
set_option maxHeartbeats 8000000 in
set_option maxRecDepth 100000 in
theorem gimballaw07_of.calls (k : Nat) (a0 : Int) (r1 : Bool) (r2 : List Int) (r3 : Int) (w : World) (hT : TabW w) (h : gimballaw07_of.f k a0 = some (r1, r2, r3)) :
  Calls Tryd.prog 21 #[.int .u64 a0] w fun e w' => ∃ v1_ : Value, e = .returned (.agg #[.bool r1, v1_, .int .i64 r3]) ∧ Kd.V (Kd.int .u32) 56 w' w.heap.size (fun k_ => (w.heap.size ≤ k_)) v1_ r2 ∧ Below w.heap.size w w' := by
 have hu26 := Tryd.underlying26
 have HB := Aside0.mk (Below.refl w.heap.size w)
 have H : ((dyad_Of.f k a0).bind fun bt295 => (some (bt295.1, bt295.2.1, bt295.2.2.1))) = some (r1, r2, r3) := h
 clear h
 obtain ⟨⟨t295, t296, t299, t300⟩, A20, H⟩ := Option.bind_eq_some_iff.mp H
 (try dsimp -simprocs only at H)
 have A2 := Aside0.mk A20
 clear A20
 simp only [Option.some.injEq, Prod.mk.injEq] at H
 obtain ⟨rfl, rfl, rfl⟩ := H
 go_enter Tryd.func21, Tryd.ntmps21
 go_wp2_with (first | ((with_reducible refine gate_dst (N := 2) rfl ?_); refine gbox (N := 2) (cs := #[.bool false, .slice none 0 0, .int .i64 0]) (t := 26) ?_; intro gb294 hg w3 hbox hb; refine ax4 (below_step bel hb) hbox ((ge hg : w.heap.size ≤ gb294)) ((ge hg : w.heap.size ≤ gb294)) ?_; clear HB; intro HB BK294 GW294 GE294; clear hb hbox hg) | ((with_reducible refine gate_callee (f := 8) rfl ?_); refine goesL_ (some 7) rfl rfl Tryd.func8 (by kernel_rfl) rfl #[.int .u64 a0] rfl ga ?_; (with_reducible refine (dyad_Of.calls k a0 t295 t296 t299 t300 _ ?side1 A2.out).mono ?_); (case side1 => first | exact hT | exact TabW.drewN hT _ | exact TabW.drew hT | exact TabW.below hT bes); rintro e w4 ⟨v297, rfl, ho0, hb⟩; refine ⟨_, rfl, ?_⟩; refine ax3 (Kd.V_lower (Kd.V_mono (ok' := fun k_ => (w.heap.size ≤ k_) ∧ k_ ≠ gb294) ho0 (fun k_ hk_ => ⟨(Nat.le_trans (below_size bes) hk_), (fb BK294 k_ hk_)⟩)) (below_size bes)) (bb BK294 hb) (below_step bes hb) ?_; clear BK294; clear HB; intro HO298 BK294 HB; (try clear hb); (try clear ho0)) | ((with_reducible refine gate_dst (N := 3) rfl ?_); refine gbox (N := 3) (cs := #[.bool false, .slice none 0 0, .int .i64 0]) (t := 26) ?_; intro gb301 hg w5 hbox hb; refine ax8 (Kd.V_below (Kd.V_elderB (kv HO298) gb301 (Nat.le_of_eq hg.symm)) hb) (bb BK294 hb) (below_step bes hb) hbox ((ge hg : w.heap.size ≤ gb301)) ((ge hg : w.heap.size ≤ gb301)) (nl hg BK294) (ng hg BK294) ?_; clear HO298; clear BK294; clear HB; intro HO298 BK294 HB BK301 GW301 GE301 NB294_301 NB301_294; clear hb hbox hg; have hnb6 := NB301_294.out; have hnc6 := NB294_301.out; have hcz7_0 := bc BK301 0 rfl; have hcz7_1 := bc BK301 1 rfl; have hcz7_2 := bc BK301 2 rfl; have hfz7_0 := blk_frozen BK301.out 0; have hfz7_1 := blk_frozen BK301.out 1; have hfz7_2 := blk_frozen BK301.out 2; obtain ⟨Ao8, co8, eo8⟩ := Kd.V_slice HO298.out; subst eo8; have hcz9_0 := bc BK294 0 rfl; have hcz9_1 := bc BK294 1 rfl; have hcz9_2 := bc BK294 2 rfl; have hfz9_0 := blk_frozen BK294.out 0; have hfz9_1 := blk_frozen BK294.out 1; have hfz9_2 := blk_frozen BK294.out 2))
 refine bodyPost_ret (results_cell_row rfl _ _ gb294 26 #[.bool t295, .slice Ao8 t296.length co8, .int .i64 t299] (0, 0) _ rfl (by (with_reducible repeat (first | refine blk_drewN ?_ _ | refine blk_drew ?_ | refine blk_alloc ?_ _)); refine blk_put (cs := #[.bool t295, .slice Ao8 t296.length co8, .int .i64 0]) ?_ 2 _ rfl; (with_reducible repeat (first | refine blk_drewN ?_ _ | refine blk_drew ?_ | refine blk_alloc ?_ _)); refine blk_put (cs := #[.bool t295, .slice none 0 0, .int .i64 0]) ?_ 1 _ rfl; (with_reducible repeat (first | refine blk_drewN ?_ _ | refine blk_drew ?_ | refine blk_alloc ?_ _)); refine blk_put (cs := #[.bool false, .slice none 0 0, .int .i64 0]) ?_ 0 _ rfl; (with_reducible repeat (first | refine blk_drewN ?_ _ | refine blk_drew ?_ | refine blk_alloc ?_ _)); refine blk_far ?_ NB294_301.out _; (with_reducible repeat (first | refine blk_drewN ?_ _ | refine blk_drew ?_ | refine blk_alloc ?_ _)); refine blk_far ?_ NB294_301.out _; (with_reducible repeat (first | refine blk_drewN ?_ _ | refine blk_drew ?_ | refine blk_alloc ?_ _)); refine blk_far ?_ NB294_301.out _; (with_reducible repeat (first | refine blk_drewN ?_ _ | refine blk_drew ?_ | refine blk_alloc ?_ _)); exact BK294.out) Tryd.underlying26 rfl (by kernel_rfl)) rfl ?_
 exact ⟨_, er, by (with_reducible repeat (first | apply Kd.V_alloc | apply Kd.V_drewN | apply Kd.V_drew)); exact Kd.V_mono (Kd.V_far (p := ⟨gb294, 2, none⟩) (Kd.V_far (p := ⟨gb294, 1, none⟩) (Kd.V_far (p := ⟨gb294, 0, none⟩) (Kd.V_far (p := ⟨gb301, 2, none⟩) (Kd.V_far (p := ⟨gb301, 1, none⟩) (Kd.V_far (p := ⟨gb301, 0, none⟩) (Kd.V_mono (Kd.V_mono HO298.out (fun k_ hk => (⟨hk, hk.2⟩ : _ ∧ k_ ≠ gb301))) (fun k_ hk => (⟨hk, hk.1.1.2⟩ : _ ∧ k_ ≠ gb294))) (fun _ hk => hk.1.2) (.bool t295)) (fun _ hk => hk.1.2) (.slice Ao8 t296.length co8)) (fun _ hk => hk.1.2) (.int .i64 t299)) (fun _ hk => hk.2) (.bool t295)) (fun _ hk => hk.2) (.slice Ao8 t296.length co8)) (fun _ hk => hk.2) (.int .i64 t299)) (fun _ hk => hk.1.1.1.1), bes⟩

/-! ### dyad_Two: function 27 -/
def dyad_Two.f (a0 : Int) : Option (Bool × List Int × Int) := some (false, (([1] : List Int)), mx (-1048576) (mn a0 1048576))
set_option maxHeartbeats 8000000 in
set_option maxRecDepth 100000 in
theorem dyad_Two.calls (a0 : Int) (r1 : Bool) (r2 : List Int) (r3 : Int) (w : World) (h : dyad_Two.f a0 = some (r1, r2, r3)) :
  Calls Tryd.prog 27 #[.int .i64 a0] w fun e w' => ∃ v1_ : Value, e = .returned (.agg #[.bool r1, v1_, .int .i64 r3]) ∧ Kd.R (Kd.int .u32) 56 w' w.heap.size (fun _ => True) v1_ r2 ∧ Below w.heap.size w w' := by
 have hu26 := Tryd.underlying26
 have HB := Aside0.mk (Below.refl w.heap.size w)
 have H : (some (false, (([1] : List Int)), mx (-1048576) (mn a0 1048576))) = some (r1, r2, r3) := h
 clear h
 obtain ⟨y303, hy303⟩ : ∃ y_ : List Int, y_ = (([1] : List Int)) := ⟨_, rfl⟩
 replace H : (some (false, y303, mx (-1048576) (mn a0 1048576))) = some (r1, r2, r3) := by first | (rw [hy303]; with_reducible exact H) | (have H2_ := (Option.bind_some _ _).symm.trans H; rw [hy303]; with_reducible exact H2_) | (have H2_ := (Option.bind_some _ _).symm.trans H; with_reducible exact H2_) | with_reducible exact H | (rw [hy303]; exact H) | exact H
 have Ny303 := Aside0.mk hy303
 clear hy303
 obtain ⟨ji2, hji2⟩ : ∃ j_ : Int, (mn a0 1048576) = j_ := ⟨_, rfl⟩
 replace H : (some (false, y303, mx (-1048576) (ji2))) = some (r1, r2, r3) := by first | (rw [hji2] at H; exact H) | (simp only [hji2] at H ⊢; exact H)
 (try (have hji2h : ji2 ≤ 1048576 := by (rw [← hji2]; unfold mn; (repeat' split) <;> omega)))
 (try (have hji2g : ji2 ≤ 64 := by omega))
 have hji2_ : (if 1048576 < a0 then 1048576 else a0) = ji2 := hji2
 obtain ⟨ji3, hji3⟩ : ∃ j_ : Int, (mx (-1048576) (ji2)) = j_ := ⟨_, rfl⟩
 replace H : (some (false, y303, ji3)) = some (r1, r2, r3) := by first | (rw [hji3] at H; exact H) | (simp only [hji3] at H ⊢; exact H)
 have hji3_ : (if (-1048576) < (ji2) then (ji2) else (-1048576)) = ji3 := hji3
 simp only [Option.some.injEq, Prod.mk.injEq] at H
 obtain ⟨rfl, rfl, rfl⟩ := H
 go_enter Tryd.func27, Tryd.ntmps27
 go_wp2_with (first | ((with_reducible refine gate_dst (N := 2) rfl ?_); refine gbox (N := 2) (cs := #[.bool false, .slice none 0 0, .int .i64 0]) (t := 26) ?_; intro gb302 hg w4 hbox hb; refine ax4 (below_step bel hb) hbox ((ge hg : w.heap.size ≤ gb302)) ((ge hg : w.heap.size ≤ gb302)) ?_; clear HB; intro HB BK302 GW302 GE302; clear hb hbox hg) | ((with_reducible refine gate_dst (N := 3) rfl ?_); refine Kd.R_lit (Kd.int .u32) _ 56 ?hg (N := 3) ?hd (xs := ([1] : List Int)) (inner := [.int .u32 1]) (ok := fun _ => True) (okp := fun _ => True) ?hr ?hp (fun _ hk => hk) trivial (Below.refl _ _) (Nat.le_refl _) (by simp) ?_; (case hd => rfl); (case hg => rfl); (case hr => first | (go_simp; done) | (go_simp; rfl)); (case hp => exact (Reps.one (show Kd.M (Kd.int .u32) _ _ _ 1 [.int .u32 1] from rfl) (Reps.none _ _))); intro v304 w5 ho6 hb hg_ hnew_; clear hg_ hnew_; (first | rw [← Ny303.out] at ho6 | (simp only [Int.reduceToNat] at ho6; rw [← Ny303.out] at ho6)); refine ax3 (Kd.R_lower ho6 (below_size bes)) (bb BK302 hb) (below_step bes hb) ?_; clear BK302; clear HB; intro HO305 BK302 HB; clear hb ho6; obtain ⟨Ao7, co7, eo7⟩ := Kd.R_slice HO305.out; subst eo7; have hcz8_0 := bc BK302 0 rfl; have hcz8_1 := bc BK302 1 rfl; have hcz8_2 := bc BK302 2 rfl; have hfz8_0 := blk_frozen BK302.out 0; have hfz8_1 := blk_frozen BK302.out 1; have hfz8_2 := blk_frozen BK302.out 2))
 refine bodyPost_ret (results_cell_row rfl _ _ gb302 26 #[.bool false, .slice Ao7 y303.length co7, .int .i64 ji3] (0, 0) _ rfl (by (with_reducible repeat (first | refine blk_drewN ?_ _ | refine blk_drew ?_ | refine blk_alloc ?_ _)); refine blk_put (cs := #[.bool false, .slice Ao7 y303.length co7, .int .i64 0]) ?_ 2 _ rfl; (with_reducible repeat (first | refine blk_drewN ?_ _ | refine blk_drew ?_ | refine blk_alloc ?_ _)); refine blk_put (cs := #[.bool false, .slice none 0 0, .int .i64 0]) ?_ 1 _ rfl; (with_reducible repeat (first | refine blk_drewN ?_ _ | refine blk_drew ?_ | refine blk_alloc ?_ _)); refine blk_put (cs := #[.bool false, .slice none 0 0, .int .i64 0]) ?_ 0 _ rfl; (with_reducible repeat (first | refine blk_drewN ?_ _ | refine blk_drew ?_ | refine blk_alloc ?_ _)); exact BK302.out) Tryd.underlying26 rfl (by kernel_rfl)) rfl ?_
 exact ⟨_, by first | rfl | (simp [errW_none, errW_some] <;> rfl) | (simp only [← hji2, ← hji3]; first | rfl | (simp [errW_none, errW_some] <;> rfl)) | (simp [*, errW_none, errW_some] <;> rfl), by (with_reducible repeat (first | apply Kd.R_alloc | apply Kd.R_drewN | apply Kd.R_drew)); exact Kd.R_mono (Kd.R_far (p := ⟨gb302, 2, none⟩) (Kd.R_far (p := ⟨gb302, 1, none⟩) (Kd.R_far (p := ⟨gb302, 0, none⟩) (Kd.R_types HO305.out BK302.out (by decide)) (fun _ hk => hk.2) (.bool false)) (fun _ hk => hk.2) (.slice Ao7 y303.length co7)) (fun _ hk => hk.2) (.int .i64 ji3)) (fun _ hk => trivial), bes⟩

/-! ### dyad_Num_Sign: function 10 -/
def dyad_Num_Sign.f (a0_0 : Bool) (l0_1 : List Int) (a0_2 : Int) : Option (Int) := if (l0_1.length : Int) = 0 then (some 0) else (if a0_0 = true then (some (-1)) else (some 1))
set_option maxHeartbeats 8000000 in
set_option maxRecDepth 100000 in
theorem dyad_Num_Sign.calls (a0_0 : Bool) (A0_1 : Option Addr) (c0_1 : Nat) (l0_1 : List Int) (a0_2 : Int) (r : Int) (w : World) (hr0_1 : Kd.C (Kd.int .u32) w A0_1 l0_1.length l0_1) (hc0_1 : l0_1.length ≤ c0_1) (h : dyad_Num_Sign.f a0_0 l0_1 a0_2 = some r) :
  Calls Tryd.prog 10 #[.agg #[.bool a0_0, .slice A0_1 l0_1.length c0_1, .int .i64 a0_2]] w fun e w' => e = .returned (.int .i64 r) ∧ Below w.heap.size w w' := by
 have hu26 := Tryd.underlying26
 have HR0_1 := Aside0.mk hr0_1
 have HC0_1 := Aside0.mk hc0_1
 clear hr0_1 hc0_1
 have HB := Aside0.mk (Below.refl w.heap.size w)
 have H : (if (l0_1.length : Int) = 0 then (some 0) else (if a0_0 = true then (some (-1)) else (some 1))) = some r := h
 clear h
 by_cases c2 : (l0_1.length : Int) = 0
 ·
  rw [if_pos c2] at H
  have c2b0 : ((l0_1.length : Int) == 0) = true := beq_iff_eq.mpr c2
  have c2b1 : ((l0_1.length : Int) != 0) = false := bne_eq_false_iff_eq.mpr c2
  clear c2
  obtain rfl := Option.some.inj H
  go_enter Tryd.func10, Tryd.ntmps10
  go_wp2_with (first | ((with_reducible refine gate_dst (N := 1) rfl ?_); refine gbox (N := 1) (cs := #[.bool a0_0, .slice A0_1 l0_1.length c0_1, .int .i64 a0_2]) (t := 26) ?_; intro gb306 hg w3 hbox hb; refine ax4 (below_step bel hb) hbox ((ge hg : w.heap.size ≤ gb306)) ((ge hg : w.heap.size ≤ gb306)) ?_; clear HB; intro HB BK306 GW306 GE306; clear hb hbox hg; have hcz4_0 := bc BK306 0 rfl; have hcz4_1 := bc BK306 1 rfl; have hcz4_2 := bc BK306 2 rfl; have hfz4_0 := blk_frozen BK306.out 0; have hfz4_1 := blk_frozen BK306.out 1; have hfz4_2 := blk_frozen BK306.out 2))
  go_ret
  exact ⟨er, bes⟩
 ·
  rw [if_neg c2] at H
  have c2b0 : ((l0_1.length : Int) == 0) = false := beq_eq_false_iff_ne.mpr c2
  have c2b1 : ((l0_1.length : Int) != 0) = true := bne_iff_ne.mpr c2
  have c2b2 : ¬ (l0_1 = []) := fun h_ => c2 (by rw [h_]; rfl)
  by_cases c5 : a0_0 = true
  ·
   subst c5
   rw [if_pos rfl] at H
   obtain rfl := Option.some.inj H
   go_enter Tryd.func10, Tryd.ntmps10
   go_wp2_with (first | ((with_reducible refine gate_dst (N := 1) rfl ?_); refine gbox (N := 1) (cs := #[.bool true, .slice A0_1 l0_1.length c0_1, .int .i64 a0_2]) (t := 26) ?_; intro gb306 hg w6 hbox hb; refine ax4 (below_step bel hb) hbox ((ge hg : w.heap.size ≤ gb306)) ((ge hg : w.heap.size ≤ gb306)) ?_; clear HB; intro HB BK306 GW306 GE306; clear hb hbox hg; have hcz7_0 := bc BK306 0 rfl; have hcz7_1 := bc BK306 1 rfl; have hcz7_2 := bc BK306 2 rfl; have hfz7_0 := blk_frozen BK306.out 0; have hfz7_1 := blk_frozen BK306.out 1; have hfz7_2 := blk_frozen BK306.out 2))
   go_ret
   exact ⟨er, bes⟩
  ·
   replace c5 := Bool.eq_false_iff.mpr c5
   subst c5
   rw [if_neg (show ¬ (false = true) by decide)] at H
   obtain rfl := Option.some.inj H
   go_enter Tryd.func10, Tryd.ntmps10
   go_wp2_with (first | ((with_reducible refine gate_dst (N := 1) rfl ?_); refine gbox (N := 1) (cs := #[.bool false, .slice A0_1 l0_1.length c0_1, .int .i64 a0_2]) (t := 26) ?_; intro gb306 hg w8 hbox hb; refine ax4 (below_step bel hb) hbox ((ge hg : w.heap.size ≤ gb306)) ((ge hg : w.heap.size ≤ gb306)) ?_; clear HB; intro HB BK306 GW306 GE306; clear hb hbox hg; have hcz9_0 := bc BK306 0 rfl; have hcz9_1 := bc BK306 1 rfl; have hcz9_2 := bc BK306 2 rfl; have hfz9_0 := blk_frozen BK306.out 0; have hfz9_1 := blk_frozen BK306.out 1; have hfz9_2 := blk_frozen BK306.out 2))
   go_ret
   exact ⟨er, bes⟩

/-! ### dyad_Num_Neg: function 26 -/
def dyad_Num_Neg.f (a0_0 : Bool) (l0_1 : List Int) (a0_2 : Int) : Option (Bool × List Int × Int) := if (l0_1.length : Int) > 0 then (some (!a0_0, l0_1, a0_2)) else (some (false, l0_1, a0_2))
set_option maxHeartbeats 8000000 in
set_option maxRecDepth 100000 in
theorem dyad_Num_Neg.calls (a0_0 : Bool) (P0_1_ : Nat → Prop) (A0_1 : Option Addr) (c0_1 : Nat) (l0_1 : List Int) (a0_2 : Int) (r1 : Bool) (r2 : List Int) (r3 : Int) (w : World) (hs0_1 : Kd.V (Kd.int .u32) 56 w w.heap.size (fun k_ => P0_1_ k_) (.slice A0_1 l0_1.length c0_1) l0_1) (h : dyad_Num_Neg.f a0_0 l0_1 a0_2 = some (r1, r2, r3)) :
  Calls Tryd.prog 26 #[.agg #[.bool a0_0, .slice A0_1 l0_1.length c0_1, .int .i64 a0_2]] w fun e w' => ∃ v1_ : Value, e = .returned (.agg #[.bool r1, v1_, .int .i64 r3]) ∧ Kd.V (Kd.int .u32) 56 w' w.heap.size (fun k_ => (P0_1_ k_ ∨ w.heap.size ≤ k_)) v1_ r2 ∧ Below w.heap.size w w' := by
 have hu26 := Tryd.underlying26
 have HO0_1 := Aside0.mk (show Kd.V (Kd.int .u32) 56 w w.heap.size (fun k_ => (P0_1_ k_ ∨ w.heap.size ≤ k_)) (.slice A0_1 l0_1.length c0_1) l0_1 from Kd.V_mono hs0_1 (fun k_ hk => .inl hk))
 have HB := Aside0.mk (Below.refl w.heap.size w)
 have H : (if (l0_1.length : Int) > 0 then (some (!a0_0, l0_1, a0_2)) else (some (false, l0_1, a0_2))) = some (r1, r2, r3) := h
 clear h
 by_cases c2 : (l0_1.length : Int) > 0
 ·
  rw [if_pos c2] at H
  have c2b0 : decide (0 < (l0_1.length : Int)) = true := decide_eq_true c2
  have c2b1 : decide (0 < l0_1.length) = true := decide_eq_true (by omega)
  clear c2
  simp only [Option.some.injEq, Prod.mk.injEq] at H
  obtain ⟨rfl, rfl, rfl⟩ := H
  go_enter Tryd.func26, Tryd.ntmps26
  go_wp2_with (first | ((with_reducible refine gate_dst (N := 1) rfl ?_); refine gbox (N := 1) (cs := #[.bool a0_0, .slice A0_1 l0_1.length c0_1, .int .i64 a0_2]) (t := 26) ?_; intro gb307 hg w3 hbox hb; refine ax5 (Kd.V_below (Kd.V_elderB (kv HO0_1) gb307 (Nat.le_of_eq hg.symm)) hb) (below_step bel hb) hbox ((ge hg : w.heap.size ≤ gb307)) ((ge hg : w.heap.size ≤ gb307)) ?_; clear HO0_1; clear HB; intro HO0_1 HB BK307 GW307 GE307; clear hb hbox hg) | ((with_reducible refine gate_dst (N := 2) rfl ?_); refine gbox (N := 2) (cs := #[.bool false, .slice none 0 0, .int .i64 0]) (t := 26) ?_; intro gb308 hg w4 hbox hb; refine ax8 (Kd.V_below (Kd.V_elderB (kv HO0_1) gb308 (Nat.le_of_eq hg.symm)) hb) (bb BK307 hb) (below_step bes hb) hbox ((ge hg : w.heap.size ≤ gb308)) ((ge hg : w.heap.size ≤ gb308)) (nl hg BK307) (ng hg BK307) ?_; clear HO0_1; clear BK307; clear HB; intro HO0_1 BK307 HB BK308 GW308 GE308 NB307_308 NB308_307; clear hb hbox hg; have hnb5 := NB307_308.out; have hnc5 := NB308_307.out; have hcz6_0 := bc BK307 0 rfl; have hcz6_1 := bc BK307 1 rfl; have hcz6_2 := bc BK307 2 rfl; have hfz6_0 := blk_frozen BK307.out 0; have hfz6_1 := blk_frozen BK307.out 1; have hfz6_2 := blk_frozen BK307.out 2; have hcz7_0 := bc BK308 0 rfl; have hcz7_1 := bc BK308 1 rfl; have hcz7_2 := bc BK308 2 rfl; have hfz7_0 := blk_frozen BK308.out 0; have hfz7_1 := blk_frozen BK308.out 1; have hfz7_2 := blk_frozen BK308.out 2))
  refine bodyPost_ret (results_cell_row rfl _ _ gb308 26 #[.bool (!a0_0), .slice A0_1 l0_1.length c0_1, .int .i64 a0_2] (0, 0) _ rfl (by (with_reducible repeat (first | refine blk_drewN ?_ _ | refine blk_drew ?_ | refine blk_alloc ?_ _)); refine blk_put (cs := #[.bool (!a0_0), .slice A0_1 l0_1.length c0_1, .int .i64 0]) ?_ 2 _ rfl; (with_reducible repeat (first | refine blk_drewN ?_ _ | refine blk_drew ?_ | refine blk_alloc ?_ _)); refine blk_put (cs := #[.bool (!a0_0), .slice none 0 0, .int .i64 0]) ?_ 1 _ rfl; (with_reducible repeat (first | refine blk_drewN ?_ _ | refine blk_drew ?_ | refine blk_alloc ?_ _)); refine blk_put (cs := #[.bool false, .slice none 0 0, .int .i64 0]) ?_ 0 _ rfl; (with_reducible repeat (first | refine blk_drewN ?_ _ | refine blk_drew ?_ | refine blk_alloc ?_ _)); refine blk_far ?_ NB308_307.out _; (with_reducible repeat (first | refine blk_drewN ?_ _ | refine blk_drew ?_ | refine blk_alloc ?_ _)); exact BK308.out) Tryd.underlying26 rfl (by kernel_rfl)) rfl ?_
  exact ⟨_, er, by (with_reducible repeat (first | apply Kd.V_alloc | apply Kd.V_drewN | apply Kd.V_drew)); exact Kd.V_mono (Kd.V_far (p := ⟨gb308, 2, none⟩) (Kd.V_far (p := ⟨gb308, 1, none⟩) (Kd.V_far (p := ⟨gb308, 0, none⟩) (Kd.V_far (p := ⟨gb307, 0, none⟩) (Kd.V_mono (Kd.V_mono HO0_1.out (fun k_ hk => (⟨hk, hk.1.2⟩ : _ ∧ k_ ≠ gb307))) (fun k_ hk => (⟨hk, hk.1.2⟩ : _ ∧ k_ ≠ gb308))) (fun _ hk => hk.1.2) (.bool (!a0_0))) (fun _ hk => hk.2) (.bool (!a0_0))) (fun _ hk => hk.2) (.slice A0_1 l0_1.length c0_1)) (fun _ hk => hk.2) (.int .i64 a0_2)) (fun _ hk => hk.1.1.1.1), bes⟩
 ·
  rw [if_neg c2] at H
  have c2b0 : decide (0 < (l0_1.length : Int)) = false := decide_eq_false c2
  have c2b1 : decide (0 < l0_1.length) = false := decide_eq_false (by omega)
  clear c2
  simp only [Option.some.injEq, Prod.mk.injEq] at H
  obtain ⟨rfl, rfl, rfl⟩ := H
  go_enter Tryd.func26, Tryd.ntmps26
  go_wp2_with (first | ((with_reducible refine gate_dst (N := 1) rfl ?_); refine gbox (N := 1) (cs := #[.bool a0_0, .slice A0_1 l0_1.length c0_1, .int .i64 a0_2]) (t := 26) ?_; intro gb307 hg w8 hbox hb; refine ax5 (Kd.V_below (Kd.V_elderB (kv HO0_1) gb307 (Nat.le_of_eq hg.symm)) hb) (below_step bel hb) hbox ((ge hg : w.heap.size ≤ gb307)) ((ge hg : w.heap.size ≤ gb307)) ?_; clear HO0_1; clear HB; intro HO0_1 HB BK307 GW307 GE307; clear hb hbox hg) | ((with_reducible refine gate_dst (N := 2) rfl ?_); refine gbox (N := 2) (cs := #[.bool false, .slice none 0 0, .int .i64 0]) (t := 26) ?_; intro gb308 hg w9 hbox hb; refine ax8 (Kd.V_below (Kd.V_elderB (kv HO0_1) gb308 (Nat.le_of_eq hg.symm)) hb) (bb BK307 hb) (below_step bes hb) hbox ((ge hg : w.heap.size ≤ gb308)) ((ge hg : w.heap.size ≤ gb308)) (nl hg BK307) (ng hg BK307) ?_; clear HO0_1; clear BK307; clear HB; intro HO0_1 BK307 HB BK308 GW308 GE308 NB307_308 NB308_307; clear hb hbox hg; have hnb10 := NB307_308.out; have hnc10 := NB308_307.out; have hcz11_0 := bc BK307 0 rfl; have hcz11_1 := bc BK307 1 rfl; have hcz11_2 := bc BK307 2 rfl; have hfz11_0 := blk_frozen BK307.out 0; have hfz11_1 := blk_frozen BK307.out 1; have hfz11_2 := blk_frozen BK307.out 2; have hcz12_0 := bc BK308 0 rfl; have hcz12_1 := bc BK308 1 rfl; have hcz12_2 := bc BK308 2 rfl; have hfz12_0 := blk_frozen BK308.out 0; have hfz12_1 := blk_frozen BK308.out 1; have hfz12_2 := blk_frozen BK308.out 2))
  refine bodyPost_ret (results_cell_row rfl _ _ gb308 26 #[.bool false, .slice A0_1 l0_1.length c0_1, .int .i64 a0_2] (0, 0) _ rfl (by (with_reducible repeat (first | refine blk_drewN ?_ _ | refine blk_drew ?_ | refine blk_alloc ?_ _)); refine blk_put (cs := #[.bool false, .slice A0_1 l0_1.length c0_1, .int .i64 0]) ?_ 2 _ rfl; (with_reducible repeat (first | refine blk_drewN ?_ _ | refine blk_drew ?_ | refine blk_alloc ?_ _)); refine blk_put (cs := #[.bool false, .slice none 0 0, .int .i64 0]) ?_ 1 _ rfl; (with_reducible repeat (first | refine blk_drewN ?_ _ | refine blk_drew ?_ | refine blk_alloc ?_ _)); refine blk_put (cs := #[.bool false, .slice none 0 0, .int .i64 0]) ?_ 0 _ rfl; (with_reducible repeat (first | refine blk_drewN ?_ _ | refine blk_drew ?_ | refine blk_alloc ?_ _)); refine blk_far ?_ NB308_307.out _; (with_reducible repeat (first | refine blk_drewN ?_ _ | refine blk_drew ?_ | refine blk_alloc ?_ _)); exact BK308.out) Tryd.underlying26 rfl (by kernel_rfl)) rfl ?_
  exact ⟨_, er, by (with_reducible repeat (first | apply Kd.V_alloc | apply Kd.V_drewN | apply Kd.V_drew)); exact Kd.V_mono (Kd.V_far (p := ⟨gb308, 2, none⟩) (Kd.V_far (p := ⟨gb308, 1, none⟩) (Kd.V_far (p := ⟨gb308, 0, none⟩) (Kd.V_far (p := ⟨gb307, 0, none⟩) (Kd.V_mono (Kd.V_mono HO0_1.out (fun k_ hk => (⟨hk, hk.1.2⟩ : _ ∧ k_ ≠ gb307))) (fun k_ hk => (⟨hk, hk.1.2⟩ : _ ∧ k_ ≠ gb308))) (fun _ hk => hk.1.2) (.bool false)) (fun _ hk => hk.2) (.bool false)) (fun _ hk => hk.2) (.slice A0_1 l0_1.length c0_1)) (fun _ hk => hk.2) (.int .i64 a0_2)) (fun _ hk => hk.1.1.1.1), bes⟩

/-! ### dyad_Num_Sub: function 23 -/
def dyad_Num_Sub.f (k : Nat) (a0_0 : Bool) (l0_1 : List Int) (a0_2 : Int) (a1_0 : Bool) (l1_1 : List Int) (a1_2 : Int) : Option (Bool × List Int × Int) := (dyad_Num_Neg.f a1_0 l1_1 a1_2).bind fun bt312 => ((dyad_Num_Add.f k a0_0 l0_1 a0_2 bt312.1 bt312.2.1 bt312.2.2).bind fun bt317 => (some (bt317.1, bt317.2.1, bt317.2.2)))
theorem dyad_Num_Sub.mono : ∀ a0 a1 a2 a3 a4 a5 k, LeO (dyad_Num_Sub.f k a0 a1 a2 a3 a4 a5) (dyad_Num_Sub.f (k + 1) a0 a1 a2 a3 a4 a5) := by
 intro a0 a1 a2 a3 a4 a5 k
 unfold dyad_Num_Sub.f
 repeat' with_reducible first | apply dyad_Num_Add.mono | exact LeO.refl _ | exact LeO.none _ | refine LeO.ite ?_ ?_ | refine LeO.bind ?_ (fun _ => ?_)
set_option maxHeartbeats 8000000 in
set_option maxRecDepth 100000 in
theorem dyad_Num_Sub.calls (k : Nat) (a0_0 : Bool) (P0_1_ : Nat → Prop) (A0_1 : Option Addr) (c0_1 : Nat) (l0_1 : List Int) (a0_2 : Int) (a1_0 : Bool) (P1_1_ : Nat → Prop) (A1_1 : Option Addr) (c1_1 : Nat) (l1_1 : List Int) (a1_2 : Int) (r1 : Bool) (r2 : List Int) (r3 : Int) (w : World) (hs0_1 : Kd.V (Kd.int .u32) 56 w w.heap.size (fun k_ => P0_1_ k_) (.slice A0_1 l0_1.length c0_1) l0_1) (hs1_1 : Kd.V (Kd.int .u32) 56 w w.heap.size (fun k_ => P1_1_ k_) (.slice A1_1 l1_1.length c1_1) l1_1) (hT : TabW w) (h : dyad_Num_Sub.f k a0_0 l0_1 a0_2 a1_0 l1_1 a1_2 = some (r1, r2, r3)) :
  Calls Tryd.prog 23 #[.agg #[.bool a0_0, .slice A0_1 l0_1.length c0_1, .int .i64 a0_2], .agg #[.bool a1_0, .slice A1_1 l1_1.length c1_1, .int .i64 a1_2]] w fun e w' => ∃ v1_ : Value, e = .returned (.agg #[.bool r1, v1_, .int .i64 r3]) ∧ Kd.V (Kd.int .u32) 56 w' w.heap.size (fun k_ => ((P0_1_ k_ ∨ P1_1_ k_) ∨ w.heap.size ≤ k_)) v1_ r2 ∧ Below w.heap.size w w' := by
 have hu26 := Tryd.underlying26
 have HO0_1 := Aside0.mk (show Kd.V (Kd.int .u32) 56 w w.heap.size (fun k_ => ((P0_1_ k_ ∨ P1_1_ k_) ∨ w.heap.size ≤ k_)) (.slice A0_1 l0_1.length c0_1) l0_1 from Kd.V_mono hs0_1 (fun k_ hk => .inl (.inl hk)))
 have HO1_1 := Aside0.mk (show Kd.V (Kd.int .u32) 56 w w.heap.size (fun k_ => ((P0_1_ k_ ∨ P1_1_ k_) ∨ w.heap.size ≤ k_)) (.slice A1_1 l1_1.length c1_1) l1_1 from Kd.V_mono hs1_1 (fun k_ hk => .inl (.inr hk)))
 have HB := Aside0.mk (Below.refl w.heap.size w)
 have H : ((dyad_Num_Neg.f a1_0 l1_1 a1_2).bind fun bt312 => ((dyad_Num_Add.f k a0_0 l0_1 a0_2 bt312.1 bt312.2.1 bt312.2.2).bind fun bt317 => (some (bt317.1, bt317.2.1, bt317.2.2)))) = some (r1, r2, r3) := h
 clear h
 obtain ⟨⟨t312, t313, t316⟩, A30, H⟩ := Option.bind_eq_some_iff.mp H
 (try dsimp -simprocs only at H)
 have A3 := Aside0.mk A30
 clear A30
 obtain ⟨⟨t317, t318, t321⟩, A40, H⟩ := Option.bind_eq_some_iff.mp H
 (try dsimp -simprocs only at H)
 have A4 := Aside0.mk A40
 clear A40
 simp only [Option.some.injEq, Prod.mk.injEq] at H
 obtain ⟨rfl, rfl, rfl⟩ := H
 go_enter Tryd.func23, Tryd.ntmps23
 try go_wp2_with (first | ((with_reducible refine gate_dst (N := 2) rfl ?_); refine gbox (N := 2) (cs := #[.bool a0_0, .slice A0_1 l0_1.length c0_1, .int .i64 a0_2]) (t := 26) ?_; intro gb309 hg w5 hbox hb; refine ax6 (Kd.V_below (Kd.V_elderB (kv HO0_1) gb309 (Nat.le_of_eq hg.symm)) hb) (Kd.V_below (Kd.V_elderB (kv HO1_1) gb309 (Nat.le_of_eq hg.symm)) hb) (below_step bel hb) hbox ((ge hg : w.heap.size ≤ gb309)) ((ge hg : w.heap.size ≤ gb309)) ?_; clear HO0_1; clear HO1_1; clear HB; intro HO0_1 HO1_1 HB BK309 GW309 GE309; clear hb hbox hg) | ((with_reducible refine gate_dst (N := 3) rfl ?_); refine gbox (N := 3) (cs := #[.bool a1_0, .slice A1_1 l1_1.length c1_1, .int .i64 a1_2]) (t := 26) ?_; intro gb310 hg w6 hbox hb; refine ax9 (Kd.V_below (Kd.V_elderB (kv HO0_1) gb310 (Nat.le_of_eq hg.symm)) hb) (Kd.V_below (Kd.V_elderB (kv HO1_1) gb310 (Nat.le_of_eq hg.symm)) hb) (bb BK309 hb) (below_step bes hb) hbox ((ge hg : w.heap.size ≤ gb310)) ((ge hg : w.heap.size ≤ gb310)) (nl hg BK309) (ng hg BK309) ?_; clear HO0_1; clear HO1_1; clear BK309; clear HB; intro HO0_1 HO1_1 BK309 HB BK310 GW310 GE310 NB309_310 NB310_309; clear hb hbox hg) | ((with_reducible refine gate_dst (N := 4) rfl ?_); refine gbox (N := 4) (cs := #[.bool false, .slice none 0 0, .int .i64 0]) (t := 26) ?_; intro gb311 hg w7 hbox hb; refine ax12 (Kd.V_below (Kd.V_elderB (kv HO0_1) gb311 (Nat.le_of_eq hg.symm)) hb) (Kd.V_below (Kd.V_elderB (kv HO1_1) gb311 (Nat.le_of_eq hg.symm)) hb) (bb BK309 hb) (bb BK310 hb) (below_step bes hb) hbox ((ge hg : w.heap.size ≤ gb311)) ((ge hg : w.heap.size ≤ gb311)) (nl hg BK309) (ng hg BK309) (nl hg BK310) (ng hg BK310) ?_; clear HO0_1; clear HO1_1; clear BK309; clear BK310; clear HB; intro HO0_1 HO1_1 BK309 BK310 HB BK311 GW311 GE311 NB309_311 NB311_309 NB310_311 NB311_310; clear hb hbox hg))
 refine ax6 (Kd.V_drew HO0_1.out) (Kd.V_drew HO1_1.out) (blk_drew BK309.out) (blk_drew BK310.out) (blk_drew BK311.out) (below_drew1 HB.out) ?_
 clear HO0_1 HO1_1 BK309 BK310 BK311 HB
 intro HO0_1 HO1_1 BK309 BK310 BK311 HB
 refine start_ (n := 5) (S := fun w' => w'.cell? ⟨gb309, 0, none⟩ = some (.bool a0_0) ∧ w'.cell? ⟨gb309, 1, none⟩ = some (.slice A0_1 l0_1.length c0_1) ∧ w'.cell? ⟨gb309, 2, none⟩ = some (.int .i64 a0_2) ∧ w'.cell? ⟨gb310, 0, none⟩ = some (.bool a1_0) ∧ w'.cell? ⟨gb310, 1, none⟩ = some (.slice A1_1 l1_1.length c1_1) ∧ w'.cell? ⟨gb310, 2, none⟩ = some (.int .i64 a1_2)) (ds := []) #[false, false, false, false, false] (by kernel_rfl) rfl rfl ⟨(blk_cell BK309.out 0).trans rfl, (blk_cell BK309.out 1).trans rfl, (blk_cell BK309.out 2).trans rfl, (blk_cell BK310.out 0).trans rfl, (blk_cell BK310.out 1).trans rfl, (blk_cell BK310.out 2).trans rfl⟩ (fun hHeld => ?_)
 generalize w7.drew = w8 at HO0_1 HO1_1 BK309 BK310 BK311 HB hHeld ⊢
 refine take_ (i := 0) (N := some 5) (v := ?_) (a' := ?_) #[true, false, false, false, false] rfl rfl (by kernel_rfl) (fun _ _ _ h => h) (Or.inl ⟨by rfl, ?_⟩) hHeld ?_ ?_
 rotate_left
 ·
  rintro w' ⟨s0, s1, s2, s3, s4, s5⟩
  go_simp
  with_reducible rfl
 rotate_left
 ·
  simp only [Act.put, sa0, sa1, sa2, i64_w, i32_w]
  rfl
 refine take_ (i := 1) (N := some 6) (v := ?_) (a' := ?_) #[true, true, false, false, false] rfl rfl (by kernel_rfl) (fun _ _ _ h => h) (Or.inl ⟨by rfl, ?_⟩) hHeld ?_ ?_
 rotate_left
 ·
  rintro w' ⟨s0, s1, s2, s3, s4, s5⟩
  go_simp
  with_reducible rfl
 rotate_left
 ·
  simp only [Act.put, sa0, sa1, sa2, i64_w, i32_w]
  rfl
 refine one_ (i := 2) (N := some 7) #[true, true, true, false, false] rfl rfl (by kernel_rfl) (by decide) (fun K hK => ?_)
 refine goes_ Tryd.func26 (by kernel_rfl) rfl #[.agg #[.bool a1_0, .slice A1_1 l1_1.length c1_1, .int .i64 a1_2]] (by rfl) rfl rfl ga ?_
 with_reducible refine (dyad_Num_Neg.calls a1_0 (fun k_ => (((((P0_1_ k_ ∨ P1_1_ k_) ∨ w.heap.size ≤ k_) ∧ k_ ≠ gb309) ∧ k_ ≠ gb310) ∧ k_ ≠ gb311)) _ _ l1_1 a1_2 t312 t313 t316 _ ?side1 A3.out).mono ?_
 (case side1 => exact HO1_1.out)
 rintro e w9 ⟨v314, rfl, ho0, hb⟩
 refine ⟨_, rfl, ?_⟩
 refine ax7 (Kd.V_below (kv HO0_1) hb) (Kd.V_below (kv HO1_1) hb) (Kd.V_lower (Kd.V_mono (ok' := fun k_ => ((P0_1_ k_ ∨ P1_1_ k_) ∨ w.heap.size ≤ k_) ∧ k_ ≠ gb309 ∧ k_ ≠ gb310 ∧ k_ ≠ gb311) ho0 (fun k_ hk_ => ⟨Or.elim hk_ (fun hs_ => hs_.1.1.1) (fun hn_ => (.inr (Nat.le_trans (below_size bes) hn_))), Or.elim hk_ (fun hs_ => hs_.1.1.2) (fun hn_ => (fb BK309 k_ hn_)), Or.elim hk_ (fun hs_ => hs_.1.2) (fun hn_ => (fb BK310 k_ hn_)), Or.elim hk_ (fun hs_ => hs_.2) (fun hn_ => (fb BK311 k_ hn_))⟩)) (below_size bes)) (bb BK309 hb) (bb BK310 hb) (bb BK311 hb) (below_step bes hb) ?_
 clear HO0_1 HO1_1 BK309 BK310 BK311 HB
 intro HO0_1 HO1_1 HO315 BK309 BK310 BK311 HB
 (try clear hb)
 (try clear hb2)
 (try clear hk)
 (try clear hi)
 (try clear ho0)
 obtain ⟨Ao10, co10, eo10⟩ := Kd.V_slice HO315.out
 (first | subst eo10 | (injection eo10 with f1_ f2_ f3_; have f4_ := f1_.symm; have f5_ := f3_.symm; clear f1_ f2_ f3_; subst f4_; subst f5_))
 refine hK.out _ _ ⟨(blk_cell BK309.out 0).trans rfl, (blk_cell BK309.out 1).trans rfl, (blk_cell BK309.out 2).trans rfl, (blk_cell BK310.out 0).trans rfl, (blk_cell BK310.out 1).trans rfl, (blk_cell BK310.out 2).trans rfl⟩ (fun hHeld => ?_)
 clear hK K
 refine norm_ (a' := ?_) ?_ ?_
 rotate_left
 ·
  show Act.put _ (some 7) _ = _
  simp only [Act.put, sa0, sa1, sa2, i64_w, i32_w]
  rfl
 refine one_ (i := 3) (N := some 8) #[true, true, true, true, false] rfl rfl (by kernel_rfl) (by decide) (fun K hK => ?_)
 refine goes_ Tryd.func11 (by kernel_rfl) rfl #[.agg #[.bool a0_0, .slice A0_1 l0_1.length c0_1, .int .i64 a0_2], .agg #[.bool t312, .slice Ao10 t313.length co10, .int .i64 t316]] (by rfl) rfl rfl ga ?_
 with_reducible refine (dyad_Num_Add.calls k a0_0 (fun k_ => (((((P0_1_ k_ ∨ P1_1_ k_) ∨ w.heap.size ≤ k_) ∧ k_ ≠ gb309) ∧ k_ ≠ gb310) ∧ k_ ≠ gb311)) _ _ l0_1 a0_2 t312 (fun k_ => (((P0_1_ k_ ∨ P1_1_ k_) ∨ w.heap.size ≤ k_) ∧ (k_ ≠ gb309 ∧ (k_ ≠ gb310 ∧ k_ ≠ gb311)))) _ _ t313 t316 t317 t318 t321 _ ?side1 ?side2 ?side3 A4.out).mono ?_
 (case side1 => exact HO0_1.out)
 (case side2 => exact HO315.out)
 (case side3 => first | exact hT | exact TabW.drewN hT _ | exact TabW.drew hT | exact TabW.below hT bes)
 rintro e w11 ⟨v319, rfl, ho0, hb⟩
 refine ⟨_, rfl, ?_⟩
 refine ax8 (Kd.V_below (kv HO0_1) hb) (Kd.V_below (kv HO1_1) hb) (Kd.V_below (kv HO315) hb) (Kd.V_lower (Kd.V_mono (ok' := fun k_ => ((P0_1_ k_ ∨ P1_1_ k_) ∨ w.heap.size ≤ k_) ∧ k_ ≠ gb309 ∧ k_ ≠ gb310 ∧ k_ ≠ gb311) ho0 (fun k_ hk_ => ⟨Or.elim hk_ (fun hs_ => Or.elim hs_ (fun hs_ => hs_.1.1.1) (fun hs_ => hs_.1)) (fun hn_ => (.inr (Nat.le_trans (below_size bes) hn_))), Or.elim hk_ (fun hs_ => Or.elim hs_ (fun hs_ => hs_.1.1.2) (fun hs_ => hs_.2.1)) (fun hn_ => (fb BK309 k_ hn_)), Or.elim hk_ (fun hs_ => Or.elim hs_ (fun hs_ => hs_.1.2) (fun hs_ => hs_.2.2.1)) (fun hn_ => (fb BK310 k_ hn_)), Or.elim hk_ (fun hs_ => Or.elim hs_ (fun hs_ => hs_.2) (fun hs_ => hs_.2.2.2)) (fun hn_ => (fb BK311 k_ hn_))⟩)) (below_size bes)) (bb BK309 hb) (bb BK310 hb) (bb BK311 hb) (below_step bes hb) ?_
 clear HO0_1 HO1_1 HO315 BK309 BK310 BK311 HB
 intro HO0_1 HO1_1 HO315 HO320 BK309 BK310 BK311 HB
 (try clear hb)
 (try clear hb2)
 (try clear hk)
 (try clear hi)
 (try clear ho0)
 obtain ⟨Ao13, co13, eo13⟩ := Kd.V_slice HO320.out
 (first | subst eo13 | (injection eo13 with f1_ f2_ f3_; have f4_ := f1_.symm; have f5_ := f3_.symm; clear f1_ f2_ f3_; subst f4_; subst f5_))
 refine hK.out _ _ ⟨(blk_cell BK309.out 0).trans rfl, (blk_cell BK309.out 1).trans rfl, (blk_cell BK309.out 2).trans rfl, (blk_cell BK310.out 0).trans rfl, (blk_cell BK310.out 1).trans rfl, (blk_cell BK310.out 2).trans rfl⟩ (fun hHeld => ?_)
 clear hK K
 refine norm_ (a' := ?_) ?_ ?_
 rotate_left
 ·
  show Act.put _ (some 8) _ = _
  simp only [Act.put, sa0, sa1, sa2, i64_w, i32_w]
  rfl
 refine one_ (i := 4) (N := none) #[true, true, true, true, true] rfl rfl (by kernel_rfl) (by decide) (fun K hK => ?_)
 have hs12 : w11.cell? ⟨gb311, 0, none⟩ = some (.bool false) := (blk_cell BK311.out 0).trans rfl
 have hfs12 := blk_frozen BK311.out 0
 have hns12_0 := NB309_311.out
 have hns12_1 := NB310_311.out
 have hms12_0 := NB311_309.out
 have hms12_1 := NB311_310.out
 have hs14 : w11.cell? ⟨gb311, 1, none⟩ = some (.slice none 0 0) := (blk_cell BK311.out 1).trans rfl
 have hfs14 := blk_frozen BK311.out 1
 have hns14_0 := NB309_311.out
 have hns14_1 := NB310_311.out
 have hms14_0 := NB311_309.out
 have hms14_1 := NB311_310.out
 have hs15 : w11.cell? ⟨gb311, 2, none⟩ = some (.int .i64 0) := (blk_cell BK311.out 2).trans rfl
 have hfs15 := blk_frozen BK311.out 2
 have hns15_0 := NB309_311.out
 have hns15_1 := NB310_311.out
 have hms15_0 := NB311_309.out
 have hms15_1 := NB311_310.out
 refine skip_ (w1 := ?_) (by rfl) rfl ?_ ?_
 rotate_left
 ·
  go_simp
  rfl
 refine hK.out _ _ ⟨((cell_far (p := ⟨gb311, _, none⟩) NB309_311.out _).trans (((cell_far (p := ⟨gb311, _, none⟩) NB309_311.out _).trans (((cell_far (p := ⟨gb311, _, none⟩) NB309_311.out _).trans (hHeld.1)))))), ((cell_far (p := ⟨gb311, _, none⟩) NB309_311.out _).trans (((cell_far (p := ⟨gb311, _, none⟩) NB309_311.out _).trans (((cell_far (p := ⟨gb311, _, none⟩) NB309_311.out _).trans (hHeld.2.1)))))), ((cell_far (p := ⟨gb311, _, none⟩) NB309_311.out _).trans (((cell_far (p := ⟨gb311, _, none⟩) NB309_311.out _).trans (((cell_far (p := ⟨gb311, _, none⟩) NB309_311.out _).trans (hHeld.2.2.1)))))), ((cell_far (p := ⟨gb311, _, none⟩) NB310_311.out _).trans (((cell_far (p := ⟨gb311, _, none⟩) NB310_311.out _).trans (((cell_far (p := ⟨gb311, _, none⟩) NB310_311.out _).trans (hHeld.2.2.2.1)))))), ((cell_far (p := ⟨gb311, _, none⟩) NB310_311.out _).trans (((cell_far (p := ⟨gb311, _, none⟩) NB310_311.out _).trans (((cell_far (p := ⟨gb311, _, none⟩) NB310_311.out _).trans (hHeld.2.2.2.2.1)))))), ((cell_far (p := ⟨gb311, _, none⟩) NB310_311.out _).trans (((cell_far (p := ⟨gb311, _, none⟩) NB310_311.out _).trans (((cell_far (p := ⟨gb311, _, none⟩) NB310_311.out _).trans (hHeld.2.2.2.2.2))))))⟩ (fun hHeld => ?_)
 clear hK K
 refine done_ (by kernel_rfl) ?_
 try go_wp2
 refine bodyPost_ret (results_cell_row rfl _ _ gb311 26 #[.bool t317, .slice Ao13 t318.length co13, .int .i64 t321] (0, 0) _ rfl (by (with_reducible repeat (first | refine blk_drewN ?_ _ | refine blk_drew ?_ | refine blk_alloc ?_ _)); refine blk_put (cs := #[.bool t317, .slice Ao13 t318.length co13, .int .i64 0]) ?_ 2 _ rfl; (with_reducible repeat (first | refine blk_drewN ?_ _ | refine blk_drew ?_ | refine blk_alloc ?_ _)); refine blk_put (cs := #[.bool t317, .slice none 0 0, .int .i64 0]) ?_ 1 _ rfl; (with_reducible repeat (first | refine blk_drewN ?_ _ | refine blk_drew ?_ | refine blk_alloc ?_ _)); refine blk_put (cs := #[.bool false, .slice none 0 0, .int .i64 0]) ?_ 0 _ rfl; (with_reducible repeat (first | refine blk_drewN ?_ _ | refine blk_drew ?_ | refine blk_alloc ?_ _)); exact BK311.out) Tryd.underlying26 rfl (by kernel_rfl)) rfl ?_
 exact ⟨_, er, by (with_reducible repeat (first | apply Kd.V_alloc | apply Kd.V_drewN | apply Kd.V_drew)); exact Kd.V_mono (Kd.V_far (p := ⟨gb311, 2, none⟩) (Kd.V_far (p := ⟨gb311, 1, none⟩) (Kd.V_far (p := ⟨gb311, 0, none⟩) (Kd.V_mono HO320.out (fun k_ hk => (⟨hk, hk.2.2.2⟩ : _ ∧ k_ ≠ gb311))) (fun _ hk => hk.2) (.bool t317)) (fun _ hk => hk.2) (.slice Ao13 t318.length co13)) (fun _ hk => hk.2) (.int .i64 t321)) (fun _ hk => hk.1.1), bes⟩

/-! ### dyad_Num_Cmp: function 29 -/
def dyad_Num_Cmp.f (k : Nat) (a0_0 : Bool) (l0_1 : List Int) (a0_2 : Int) (a1_0 : Bool) (l1_1 : List Int) (a1_2 : Int) : Option (Int) := (dyad_Num_Sub.f k a0_0 l0_1 a0_2 a1_0 l1_1 a1_2).bind fun bt324 => ((dyad_Num_Sign.f bt324.1 bt324.2.1 bt324.2.2).bind fun t329 => (some t329))
theorem dyad_Num_Cmp.mono : ∀ a0 a1 a2 a3 a4 a5 k, LeO (dyad_Num_Cmp.f k a0 a1 a2 a3 a4 a5) (dyad_Num_Cmp.f (k + 1) a0 a1 a2 a3 a4 a5) := by
 intro a0 a1 a2 a3 a4 a5 k
 unfold dyad_Num_Cmp.f
 repeat' with_reducible first | apply dyad_Num_Sub.mono | exact LeO.refl _ | exact LeO.none _ | refine LeO.ite ?_ ?_ | refine LeO.bind ?_ (fun _ => ?_)
set_option maxHeartbeats 8000000 in
set_option maxRecDepth 100000 in
theorem dyad_Num_Cmp.calls (k : Nat) (a0_0 : Bool) (A0_1 : Option Addr) (c0_1 : Nat) (l0_1 : List Int) (a0_2 : Int) (a1_0 : Bool) (A1_1 : Option Addr) (c1_1 : Nat) (l1_1 : List Int) (a1_2 : Int) (r : Int) (w : World) (hr0_1 : Kd.C (Kd.int .u32) w A0_1 l0_1.length l0_1) (hc0_1 : l0_1.length ≤ c0_1) (hr1_1 : Kd.C (Kd.int .u32) w A1_1 l1_1.length l1_1) (hc1_1 : l1_1.length ≤ c1_1) (hT : TabW w) (h : dyad_Num_Cmp.f k a0_0 l0_1 a0_2 a1_0 l1_1 a1_2 = some r) :
  Calls Tryd.prog 29 #[.agg #[.bool a0_0, .slice A0_1 l0_1.length c0_1, .int .i64 a0_2], .agg #[.bool a1_0, .slice A1_1 l1_1.length c1_1, .int .i64 a1_2]] w fun e w' => e = .returned (.int .i64 r) ∧ Below w.heap.size w w' := by
 have hu26 := Tryd.underlying26
 have HR0_1 := Aside0.mk hr0_1
 have HC0_1 := Aside0.mk hc0_1
 clear hr0_1 hc0_1
 have HR1_1 := Aside0.mk hr1_1
 have HC1_1 := Aside0.mk hc1_1
 clear hr1_1 hc1_1
 have HB := Aside0.mk (Below.refl w.heap.size w)
 have H : ((dyad_Num_Sub.f k a0_0 l0_1 a0_2 a1_0 l1_1 a1_2).bind fun bt324 => ((dyad_Num_Sign.f bt324.1 bt324.2.1 bt324.2.2).bind fun t329 => (some t329))) = some r := h
 clear h
 obtain ⟨⟨t324, t325, t328⟩, A30, H⟩ := Option.bind_eq_some_iff.mp H
 (try dsimp -simprocs only at H)
 have A3 := Aside0.mk A30
 clear A30
 obtain ⟨t329, A40, H⟩ := Option.bind_eq_some_iff.mp H
 (try dsimp -simprocs only at H)
 have A4 := Aside0.mk A40
 clear A40
 obtain rfl := Option.some.inj H
 go_enter Tryd.func29, Tryd.ntmps29
 go_wp2_with (first | ((with_reducible refine gate_dst (N := 2) rfl ?_); refine gbox (N := 2) (cs := #[.bool a0_0, .slice A0_1 l0_1.length c0_1, .int .i64 a0_2]) (t := 26) ?_; intro gb322 hg w5 hbox hb; refine ax4 (below_step bel hb) hbox ((ge hg : w.heap.size ≤ gb322)) ((ge hg : w.heap.size ≤ gb322)) ?_; clear HB; intro HB BK322 GW322 GE322; clear hb hbox hg) | ((with_reducible refine gate_dst (N := 3) rfl ?_); refine gbox (N := 3) (cs := #[.bool a1_0, .slice A1_1 l1_1.length c1_1, .int .i64 a1_2]) (t := 26) ?_; intro gb323 hg w6 hbox hb; refine ax7 (bb BK322 hb) (below_step bes hb) hbox ((ge hg : w.heap.size ≤ gb323)) ((ge hg : w.heap.size ≤ gb323)) (nl hg BK322) (ng hg BK322) ?_; clear BK322; clear HB; intro BK322 HB BK323 GW323 GE323 NB322_323 NB323_322; clear hb hbox hg; have hnb7 := NB322_323.out; have hnc7 := NB323_322.out; have hcz8_0 := bc BK322 0 rfl; have hcz8_1 := bc BK322 1 rfl; have hcz8_2 := bc BK322 2 rfl; have hfz8_0 := blk_frozen BK322.out 0; have hfz8_1 := blk_frozen BK322.out 1; have hfz8_2 := blk_frozen BK322.out 2; have hcz9_0 := bc BK323 0 rfl; have hcz9_1 := bc BK323 1 rfl; have hcz9_2 := bc BK323 2 rfl; have hfz9_0 := blk_frozen BK323.out 0; have hfz9_1 := blk_frozen BK323.out 1; have hfz9_2 := blk_frozen BK323.out 2) | ((with_reducible refine gate_callee (f := 23) rfl ?_); refine goesL_ (some 7) rfl rfl Tryd.func23 (by kernel_rfl) rfl #[.agg #[.bool a0_0, .slice A0_1 l0_1.length c0_1, .int .i64 a0_2], .agg #[.bool a1_0, .slice A1_1 l1_1.length c1_1, .int .i64 a1_2]] rfl ga ?_; (with_reducible refine (dyad_Num_Sub.calls k a0_0 (fun k_ => k_ < w.heap.size) _ _ l0_1 a0_2 a1_0 (fun k_ => k_ < w.heap.size) _ _ l1_1 a1_2 t324 t325 t328 _ ?side1 ?side2 ?side3 A3.out).mono ?_); (case side1 => exact Kd.V_mk HC0_1.out (Kd.F_below (Kd.C_F (Kd.heap_int .u32) HR0_1.out) bes)); (case side2 => exact Kd.V_mk HC1_1.out (Kd.F_below (Kd.C_F (Kd.heap_int .u32) HR1_1.out) bes)); (case side3 => first | exact hT | exact TabW.drewN hT _ | exact TabW.drew hT | exact TabW.below hT bes); rintro e w10 ⟨v326, rfl, ho0, hb⟩; refine ⟨_, rfl, ?_⟩; refine ax4 (Kd.V_lower (Kd.V_mono (ok' := fun k_ => k_ ≠ gb322 ∧ k_ ≠ gb323) ho0 (fun k_ hk_ => ⟨Or.elim hk_ (fun hs_ => Or.elim hs_ (fun hs_ => fun e_ => Nat.not_le.2 hs_ (by rw [e_]; exact GW322.out)) (fun hs_ => fun e_ => Nat.not_le.2 hs_ (by rw [e_]; exact GW322.out))) (fun hn_ => (fb BK322 k_ hn_)), Or.elim hk_ (fun hs_ => Or.elim hs_ (fun hs_ => fun e_ => Nat.not_le.2 hs_ (by rw [e_]; exact GW323.out)) (fun hs_ => fun e_ => Nat.not_le.2 hs_ (by rw [e_]; exact GW323.out))) (fun hn_ => (fb BK323 k_ hn_))⟩)) (below_size bes)) (bb BK322 hb) (bb BK323 hb) (below_step bes hb) ?_; clear BK322; clear BK323; clear HB; intro HO327 BK322 BK323 HB; (try clear hb); (try clear ho0); obtain ⟨Ao11, co11, eo11⟩ := Kd.V_slice HO327.out; subst eo11) | ((with_reducible refine gate_callee (f := 10) rfl ?_); refine goesL_ (some 8) rfl rfl Tryd.func10 (by kernel_rfl) rfl #[.agg #[.bool t324, .slice Ao11 t325.length co11, .int .i64 t328]] rfl ga ?_; (with_reducible refine (dyad_Num_Sign.calls t324 _ _ t325 t328 t329 _ ?side1 ?side2 A4.out).mono ?_); (case side1 => exact kvs HO327); (case side2 => exact (Kd.V_reads' HO327.out).2.1); rintro e w12 ⟨rfl, hb⟩; refine ⟨_, rfl, ?_⟩; refine ax4 (Kd.V_below (kv HO327) hb) (bb BK322 hb) (bb BK323 hb) (below_step bes hb) ?_; clear HO327; clear BK322; clear BK323; clear HB; intro HO327 BK322 BK323 HB; (try clear hb)))
 go_ret
 exact ⟨er, bes⟩

/-! ### word_Next: function 32 -/
def word_Next.j0 : Nat → Int → Bool → Option (Int)
 | 0, _, _ => none
 | k + 1, x0, x3 => if x3 = true then (some x0) else (if x0 = 9223372036854775808 then (some 1) else ((word_Neg.f x0).bind fun t331 => (if t331 = true then (some (IntKind.u64.wrap (x0 - 1))) else (some (IntKind.u64.wrap (x0 + 1))))))
def word_Next.f (k : Nat) (a0 : Int) : Option (Int) := (word_Kind.f k a0).bind fun t330 => (if t330 = 5 then (word_Next.j0 k a0 true) else (word_Next.j0 k a0 (a0 == 9218868437227405312)))
theorem word_Next.mono_l : ∀ k, (∀ y0 y1, LeO (word_Next.j0 k y0 y1) (word_Next.j0 (k + 1) y0 y1))
 | 0 => fun _ _ r h => by simp [word_Next.j0] at h
 | k + 1 => by
  have ih0 := word_Next.mono_l k
  ·
   intro y0 y1
   unfold word_Next.j0
   repeat' with_reducible first | apply ih0 | apply word_Kind.mono | exact LeO.refl _ | exact LeO.none _ | refine LeO.ite ?_ ?_ | refine LeO.bind ?_ (fun _ => ?_)
theorem word_Next.mono : ∀ a0 k, LeO (word_Next.f k a0) (word_Next.f (k + 1) a0) := by
 intro a0 k
 have ih0 := word_Next.mono_l k
 unfold word_Next.f
 repeat' with_reducible first | apply ih0 | apply word_Kind.mono | exact LeO.refl _ | exact LeO.none _ | refine LeO.ite ?_ ?_ | refine LeO.bind ?_ (fun _ => ?_)
set_option maxHeartbeats 8000000 in
set_option maxRecDepth 100000 in
theorem word_Next.calls (k : Nat) (a0 : Int) (r : Int) (w : World) (h : word_Next.f k a0 = some r) :
  Calls Tryd.prog 32 #[.int .u64 a0] w fun e w' => e = .returned (.int .u64 r) ∧ Drawn0 w w' := by
 have H : ((word_Kind.f k a0).bind fun t330 => (if t330 = 5 then (word_Next.j0 k a0 true) else (word_Next.j0 k a0 (a0 == 9218868437227405312)))) = some r := h
 clear h
 have HC2 := Aside0.mk H
 clear H
 go_enter Tryd.func32, Tryd.ntmps32
 go_upto_region 1 with (fail)
 go_cut [3] (fun v3 wc => ∃ (kq : Nat) (x3_1 : Bool), v3 = .bool x3_1 ∧ Aside0 (word_Next.j0 kq a0 x3_1 = some r) ∧ Aside0 (kq ≤ k) ∧ Drawn0 w wc)
 case first =>
  have H := HC2.out
  clear HC2
  obtain ⟨t330, A30, H⟩ := Option.bind_eq_some_iff.mp H
  (try dsimp -simprocs only at H)
  have A3 := Aside0.mk A30
  clear A30
  by_cases c4 : t330 = 5
  rotate_left
  ·
   rw [if_neg c4] at H
   have c4b0 : (t330 == 5) = false := beq_eq_false_iff_ne.mpr c4
   have c4b1 : (t330 != 5) = true := bne_iff_ne.mpr c4
   (first | rw [c4b0] | (simp only [i64_w, i32_w]; rw [c4b0]) | skip)
   have H' := Aside0.mk H
   clear H
   go_wp2_with (first | ((with_reducible refine gate_callee (f := 52) rfl ?_); refine goesL_ (some 5) rfl rfl Tryd.func52 (by kernel_rfl) rfl #[.int .u64 a0] rfl ga ?_; (with_reducible refine (word_Kind.calls k a0 t330 _ A3.out).mono ?_); rintro e w' ⟨rfl, ⟨nd, rfl⟩⟩; refine ⟨_, rfl, ?_⟩))
   go_meet
   case rel => exact ⟨_, ((a0 == 9218868437227405312)), (by first | rfl | (simp; done) | (simp [*]; done)), H', ⟨by first | omega | exact Nat.le_refl _⟩, by repeat (first | exact Drawn0.refl _ | apply Drawn0.step)⟩
  rw [if_pos c4] at H
  have c4b0 : (t330 == 5) = true := beq_iff_eq.mpr c4
  have c4b1 : (t330 != 5) = false := bne_eq_false_iff_eq.mpr c4
  clear c4
  (first | rw [c4b0] | (simp only [i64_w, i32_w]; rw [c4b0]) | skip)
  have H' := Aside0.mk H
  clear H
  go_wp2_with (first | ((with_reducible refine gate_callee (f := 52) rfl ?_); refine goesL_ (some 5) rfl rfl Tryd.func52 (by kernel_rfl) rfl #[.int .u64 a0] rfl ga ?_; (with_reducible refine (word_Kind.calls k a0 t330 _ A3.out).mono ?_); rintro e w' ⟨rfl, ⟨nd, rfl⟩⟩; refine ⟨_, rfl, ?_⟩))
  go_meet
  case rel => exact ⟨_, (true), (by first | rfl | (simp; done) | (simp [*]; done)), H', ⟨by first | omega | exact Nat.le_refl _⟩, by repeat (first | exact Drawn0.refl _ | apply Drawn0.step)⟩
 case rest =>
  clear HC2
  try clear p2
  try clear c3
  try clear c4
  try clear c4b0
  try clear c4b1
  obtain ⟨kq, x3_1, rfl, HA, HJ1, ⟨mc1, rfl⟩⟩ := hcut
  cases kq with
  | zero => exact absurd HA.out (by simp [word_Next.j0])
  | succ kj1 =>
   have H := HA.out
   clear HA
   simp only [word_Next.j0] at H
   by_cases c5 : x3_1 = true
   ·
    subst c5
    rw [if_pos rfl] at H
    obtain rfl := Option.some.inj H
    go_wp2
    go_ret
    exact ⟨by first | rfl | (simp; done) | (simp [*]; done), by repeat (first | exact Drawn0.refl _ | apply Drawn0.step)⟩
   ·
    replace c5 := Bool.eq_false_iff.mpr c5
    subst c5
    rw [if_neg (show ¬ (false = true) by decide)] at H
    by_cases c6 : a0 = 9223372036854775808
    ·
     rw [if_pos c6] at H
     have c6b0 : (a0 == 9223372036854775808) = true := beq_iff_eq.mpr c6
     have c6b1 : (a0 != 9223372036854775808) = false := bne_eq_false_iff_eq.mpr c6
     clear c6
     obtain rfl := Option.some.inj H
     go_wp2
     go_ret
     exact ⟨by first | rfl | (simp; done) | (simp [*]; done), by repeat (first | exact Drawn0.refl _ | apply Drawn0.step)⟩
    ·
     rw [if_neg c6] at H
     have c6b0 : (a0 == 9223372036854775808) = false := beq_eq_false_iff_ne.mpr c6
     have c6b1 : (a0 != 9223372036854775808) = true := bne_iff_ne.mpr c6
     obtain ⟨t331, A70, H⟩ := Option.bind_eq_some_iff.mp H
     (try dsimp -simprocs only at H)
     have A7 := Aside0.mk A70
     clear A70
     by_cases c8 : t331 = true
     ·
      subst c8
      rw [if_pos rfl] at H
      obtain rfl := Option.some.inj H
      go_wp2_with (first | ((with_reducible refine gate_callee (f := 17) rfl ?_); refine goesL_ (some 17) rfl rfl Tryd.func17 (by kernel_rfl) rfl #[.int .u64 a0] rfl ga ?_; (with_reducible refine (word_Neg.calls a0 true _ A7.out).mono ?_); rintro e w' ⟨rfl, ⟨nd, rfl⟩⟩; refine ⟨_, rfl, ?_⟩))
      go_ret
      exact ⟨by first | rfl | (simp; done) | (simp [*]; done), by repeat (first | exact Drawn0.refl _ | apply Drawn0.step)⟩
     ·
      replace c8 := Bool.eq_false_iff.mpr c8
      subst c8
      rw [if_neg (show ¬ (false = true) by decide)] at H
      obtain rfl := Option.some.inj H
      go_wp2_with (first | ((with_reducible refine gate_callee (f := 17) rfl ?_); refine goesL_ (some 17) rfl rfl Tryd.func17 (by kernel_rfl) rfl #[.int .u64 a0] rfl ga ?_; (with_reducible refine (word_Neg.calls a0 false _ A7.out).mono ?_); rintro e w' ⟨rfl, ⟨nd, rfl⟩⟩; refine ⟨_, rfl, ?_⟩))
      go_ret
      exact ⟨by first | rfl | (simp; done) | (simp [*]; done), by repeat (first | exact Drawn0.refl _ | apply Drawn0.step)⟩

/-! ### word_Flip: function 56 -/
def word_Flip.f (a0 : Int) : Option (Int) := some (Go.bits .xor .u64 a0 9223372036854775808)
set_option maxHeartbeats 8000000 in
set_option maxRecDepth 100000 in
theorem word_Flip.calls (a0 : Int) (r : Int) (w : World) (h : word_Flip.f a0 = some r) :
  Calls Tryd.prog 56 #[.int .u64 a0] w fun e w' => e = .returned (.int .u64 r) ∧ Drawn0 w w' := by
 have H : (some (Go.bits .xor .u64 a0 9223372036854775808)) = some r := h
 clear h
 obtain rfl := Option.some.inj H
 go_enter Tryd.func56, Tryd.ntmps56
 go_wp2
 go_ret
 exact ⟨by first | rfl | (simp; done) | (simp [*]; done), by repeat (first | exact Drawn0.refl _ | apply Drawn0.step)⟩

end Go.Proofs.YtakegikedpcilaaDoor.F
